/- Lease: what the functions compute, and that the program computes it; printed by a program of ours. -/
import Derived.Test.YtodijocajcohjaaDraft
set_option linter.unusedVariables false
set_option linter.unusedSimpArgs false
namespace Go.Proofs.Ytodijocajcohjaa
open Go.RowKit
noncomputable def lease_nobody.impl  : Option ((Int × Int × Int)) :=
  some (-1, 0, 0)
set_option maxRecDepth 100000 in
set_option maxHeartbeats 4000000 in
theorem lease_nobody.c {B : World} {hs : List MP} {w : World} (hS : St B (hs) w) {r : (Int × Int × Int)} (hr : lease_nobody.impl  = some r) :
    Calls Try.prog 31 #[] w fun e w' => ∃ x : Unit, e = .returned (.agg #[.int .i64 r.1, .int .i64 r.2.1, .int .i64 r.2.2]) ∧ St B (hs) w' := by
 unfold lease_nobody.impl at hr
 refine calls_T Try.func31 rfl rfl rfl hS ?_
 refine T.seq ?_
 refine T.region ?_
 refine T.allocS .list rfl (wants0 rfl) rfl (cs := [.int .i64 0, .int .i64 0, .int .i64 0]) rfl (fun b1 => ?_)
 refine T.nil ?_
 refine T.then_normal ?_
 refine T.seq ?_
 refine T.region ?_
 refine T.build .list (vals := [(0, .int .i64 (-1))]) (cells := #[.int .i64 (-1), .int .i64 0, .int .i64 0]) rfl (wants0 rfl) rfl rfl (run_buildStruct (sizes := [1, 1, 1]) (by kernel_rfl) (by kernel_rfl)) ?_
 refine T.store .list 0 rfl rfl (wants0 rfl) rfl rfl rfl rfl (Nat.le_of_ble_eq_true rfl) rfl (cs' := [.int .i64 (-1), .int .i64 0, .int .i64 0]) rfl rfl ?_
 refine T.nil ?_
 refine T.then_normal ?_
 refine T.ret ?_
 obtain rfl := inv_some hr
 refine T.out1 rfl (OutRun.cellN 0 rfl rfl (vs := [.int .i64 (-1), .int .i64 0, .int .i64 0]) rfl rfl) (fun w hS => ⟨(), rfl, hS.pick [] 1 rfl rfl (Nat.le_add_left _ _) rfl⟩)

noncomputable def lease_key.impl  : Option (List UInt8) :=
  some ([(1 : UInt8)] : List UInt8)
set_option maxRecDepth 100000 in
set_option maxHeartbeats 4000000 in
theorem lease_key.c {B : World} {hs : List MP} {w : World} (hS : St B (hs) w) {r : List UInt8} (hr : lease_key.impl  = some r) :
    Calls Try.prog 27 #[] w fun e w' => ∃ x : (Option Addr × Nat), e = .returned (.slice x.1 r.length x.2) ∧ St B (Bf E8 5 x.1 x.2 r :: hs) w' := by
 unfold lease_key.impl at hr
 refine calls_T Try.func27 rfl rfl rfl hS ?_
 refine T.seq ?_
 refine T.region ?_
 refine T.assign .list rfl (wants0 rfl) rfl rfl ?_
 refine T.nil ?_
 refine T.then_normal ?_
 refine T.seq ?_
 refine T.region ?_
 refine T.lit (E := E8) .list (vals := [(0, .int .u8 1)]) (cells := #[.int .u8 1]) rfl (wants0 rfl) rfl rfl rfl rfl rfl (by kernel_rfl) ([(1 : UInt8)] : List UInt8) rfl (fun _ _ _ _ _ => (Encs.c1 (enc := b8) (h1 := fun _ => rfl) rfl rfl)) (fun b1 => ?_)
 refine T.assign .list rfl (wants0 rfl) rfl rfl ?_
 refine T.nil ?_
 refine T.then_normal ?_
 refine T.ret ?_
 obtain rfl := inv_some hr
 refine T.pick [0] 1 rfl rfl (Nat.le_add_left _ _) rfl ?_
 refine T.ret1 rfl rfl (fun w hS => ⟨(some ⟨b1, 0, none⟩, 1), rfl, hS⟩)

noncomputable def lease_bytes.impl (a0 : Int × Int × Int) : Option (List UInt8) :=
  (wire_Uint.impl (bitsOf .or .i64 (shlI .i64 a0.2.1 2) a0.1)).bind fun r1 => (wire_Uint.impl a0.2.2).bind fun r2 => chk ((r1.length + r2.length) * 1 ≤ 140737488355328) (some (r1 ++ r2))
set_option maxRecDepth 100000 in
set_option maxHeartbeats 4000000 in
theorem lease_bytes.c {B : World} {hs : List MP} {w : World} {a0 : Int × Int × Int} (hS : St B (hs) w) {r : List UInt8} (hr : lease_bytes.impl a0 = some r) :
    Calls Try.prog 28 #[.agg #[.int .i64 a0.1, .int .i64 a0.2.1, .int .i64 a0.2.2]] w fun e w' => ∃ x : (Option Addr × Nat), e = .returned (.slice x.1 r.length x.2) ∧ St B (Bf E8 5 x.1 x.2 r :: hs) w' := by
 unfold lease_bytes.impl at hr
 refine calls_T Try.func28 rfl rfl rfl hS ?_
 refine T.seq ?_
 refine T.region ?_
 refine T.boxS .list rfl (wants0 rfl) rfl rfl (cs := [.int .i64 a0.1, .int .i64 a0.2.1, .int .i64 a0.2.2]) rfl (fun b1 => ?_)
 refine T.assign .list rfl (wants0 rfl) rfl rfl ?_
 refine T.nil ?_
 refine T.then_normal ?_
 refine T.seq ?_
 refine T.dStart mixed ?_
 refine T.field (.dPure (i := 0) rfl (by kernel_rfl) (fun d _ _ _ _ h => by cases d <;> exact h)) rfl (wants0 rfl) rfl rfl ?_
 refine T.field (.dPure (i := 3) rfl (by kernel_rfl) (fun d _ _ _ _ h => by cases d <;> exact h)) rfl (wants0 rfl) rfl rfl ?_
 refine T.field (.dPure (i := 7) rfl (by kernel_rfl) (fun d _ _ _ _ h => by cases d <;> exact h)) rfl (wants0 rfl) rfl rfl ?_
 refine T.dAdd 12 (fun w => w.heap[b1]? = some (.cells [.int .i64 a0.1, .int .i64 a0.2.1, .int .i64 a0.2.2].toArray 28 (0, 0))) (Cl.stays 0 rfl) ?_
 refine T.valS 0 (i := 1) (.int .i64 a0.2.1) rfl rfl (by kernel_rfl) (by kernel_rfl) (fun d _ _ _ _ h => by cases d <;> exact h) (wants0 rfl) rfl (run_ldCl rfl rfl rfl) ?_
 refine T.shl (.dPure (i := 2) rfl (by kernel_rfl) (fun d _ _ _ _ h => by cases d <;> exact h)) rfl (wants0 rfl) rfl rfl rfl (by decide) ?_
 refine T.valS 0 (i := 4) (.int .i64 a0.1) rfl rfl (by kernel_rfl) (by kernel_rfl) (fun d _ _ _ _ h => by cases d <;> exact h) (wants0 rfl) rfl (run_ldCl rfl rfl rfl) ?_
 refine T.bin (.dPure (i := 5) rfl (by kernel_rfl) (fun d _ _ _ _ h => by cases d <;> exact h)) rfl (wants0 rfl) rfl rfl rfl rfl ?_
 refine T.valS 0 (i := 8) (.int .i64 a0.2.2) rfl rfl (by kernel_rfl) (by kernel_rfl) (fun d _ _ _ _ h => by cases d <;> exact h) (wants0 rfl) rfl (run_ldCl rfl rfl rfl) ?_
 obtain ⟨r1, hg1, hr⟩ := inv_bind hr
 refine T.dOnly (i := 6) (by kernel_rfl) ?_
 refine T.call (.dOne rfl (by kernel_rfl)) (wants0 rfl) rfl (run_callF (vs := [_]) rfl Try.func41 rfl (by decide) rfl) (fun w hS => wire_Uint.c hS  hg1) (fun x1 => ?_)
 refine T.dNext (phi_cons (.inr (Cl.stays 1 rfl)) phi_nil) ?_
 obtain ⟨r2, hg2, hr⟩ := inv_bind hr
 refine T.dOnly (i := 9) (by kernel_rfl) ?_
 refine T.call (.dOne rfl (by kernel_rfl)) (wants0 rfl) rfl (run_callF (vs := [_]) rfl Try.func41 rfl (by decide) rfl) (fun w hS => wire_Uint.c hS  hg2) (fun x2 => ?_)
 refine T.dNext (phi_cons (.inr (Cl.stays 2 rfl)) phi_nil) ?_
 obtain ⟨hc1, hr⟩ := inv_chk hr
 refine T.dOnly (i := 10) (by kernel_rfl) ?_
 refine T.appBf (.dOne rfl (by kernel_rfl)) 1 0 rfl rfl rfl rfl rfl (wants0 rfl) rfl rfl rfl rfl rfl rfl hc1 (fun _ _ => rfl) (fun A2 c2 => ?_)
 refine T.dNext (phi_cons (.inr (Cl.stays 2 rfl)) phi_nil) ?_
 refine T.assign (.dPure (i := 11) rfl (by kernel_rfl) (fun d _ _ _ _ h => by cases d <;> exact h)) rfl (wants0 rfl) rfl rfl ?_
 refine T.dDone (by kernel_rfl) ?_
 refine T.then_normal ?_
 refine T.ret ?_
 obtain rfl := inv_some hr
 refine T.pick [1] 3 rfl rfl (Nat.le_add_left _ _) rfl ?_
 refine T.ret1 rfl rfl (fun w hS => ⟨(A2, c2), rfl, hS⟩)

noncomputable def lease_Now.impl (o0a : Int × Int × Int × Int × Int × Int × Int × Int × Int × Int × Int × Int × Int × Int × Int × Int × Int) (o0aa : Int × Int × Int × Int) (o0aaa : Int × Int × Int × Int) (q0aaab : List (Int × Int)) (o0aaac : Int × Bool × Int × Int × Int × Int × Int) (q0aaacb : List (Int × (List UInt8))) (q0aaacc : List (Int × (List UInt8))) (q0aah : List (Int × Int)) (q0aak : List (Int × Int)) (q0b : List ((Int × (List UInt8) × (List UInt8)) × Bool)) : Option ((Int × Int × Int) × Int) :=
  (lease_key.impl ).bind fun r1 => (draft_Draft_Get.impl ((o0a.1, o0a.2.1, o0a.2.2.1, o0a.2.2.2.1, o0a.2.2.2.2.1, o0a.2.2.2.2.2.1, o0a.2.2.2.2.2.2.1, o0a.2.2.2.2.2.2.2.1, o0a.2.2.2.2.2.2.2.2.1, o0a.2.2.2.2.2.2.2.2.2.1, o0a.2.2.2.2.2.2.2.2.2.2.1, o0a.2.2.2.2.2.2.2.2.2.2.2.1, o0a.2.2.2.2.2.2.2.2.2.2.2.2.1, o0a.2.2.2.2.2.2.2.2.2.2.2.2.2.1, o0a.2.2.2.2.2.2.2.2.2.2.2.2.2.2.1, o0a.2.2.2.2.2.2.2.2.2.2.2.2.2.2.2.1, o0a.2.2.2.2.2.2.2.2.2.2.2.2.2.2.2.2)) ((o0aa.1, o0aa.2.1, o0aa.2.2.1, o0aa.2.2.2)) ((o0aaa.1, o0aaa.2.1, o0aaa.2.2.1, o0aaa.2.2.2)) q0aaab ((o0aaac.1, o0aaac.2.1, o0aaac.2.2.1, o0aaac.2.2.2.1, o0aaac.2.2.2.2.1, o0aaac.2.2.2.2.2.1, o0aaac.2.2.2.2.2.2)) q0aaacb q0aaacc q0aah q0aak q0b 5 r1).bind fun r2 => (if ((!(decide (r2.2.2 = 0)))) = true then some ((0, 0, 0), r2.2.2) else (if ((!r2.2.1)) = true then (lease_nobody.impl ).bind fun r3 => some ((r3.1, r3.2.1, r3.2.2), 0) else (wire_ReadUint.impl r2.1 0).bind fun r4 => (if ((!(decide (r4.2.2 = 0)))) = true then some ((0, 0, 0), 22) else (wire_ReadUint.impl r2.1 r4.2.1).bind fun r5 => (if ((!(decide (r5.2.2 = 0)))) = true then some ((0, 0, 0), 22) else some ((bitsOf .and .i64 r4.1 3, shrI .i64 r4.1 2, r5.1), 0)))))
set_option maxRecDepth 100000 in
set_option maxHeartbeats 4000000 in
theorem lease_Now.c {B : World} {hs : List MP} {w : World} {p0 : Nat} {p0a : Nat} {o0a : Int × Int × Int × Int × Int × Int × Int × Int × Int × Int × Int × Int × Int × Int × Int × Int × Int} {p0aa : Nat} {o0aa : Int × Int × Int × Int} {p0aaa : Nat} {o0aaa : Int × Int × Int × Int} {m0aaab : Nat} {q0aaab : List (Int × Int)} {p0aaac : Nat} {o0aaac : Int × Bool × Int × Int × Int × Int × Int} {m0aaacb : Nat} {q0aaacb : List (Int × (List UInt8))} {c0aaacc : Nat} {A0aaacc : Option Addr} {q0aaacc : List (Int × (List UInt8))} {m0aah : Nat} {q0aah : List (Int × Int)} {m0aak : Nat} {q0aak : List (Int × Int)} {c0b : Nat} {A0b : Option Addr} {q0b : List ((Int × (List UInt8) × (List UInt8)) × Bool)} (hS : St B (Cl p0 88 [.pointer (some ⟨p0a, 0, none⟩), .slice A0b q0b.length c0b] :: Cl p0a 80 [.pointer (some ⟨p0aa, 0, none⟩), .int .i64 o0a.1, .int .i64 o0a.2.1, .int .i64 o0a.2.2.1, .int .i64 o0a.2.2.2.1, .int .i64 o0a.2.2.2.2.1, .int .i64 o0a.2.2.2.2.2.1, .int .i64 o0a.2.2.2.2.2.2.1, .int .i64 o0a.2.2.2.2.2.2.2.1, .int .i64 o0a.2.2.2.2.2.2.2.2.1, .int .i64 o0a.2.2.2.2.2.2.2.2.2.1, .int .i64 o0a.2.2.2.2.2.2.2.2.2.2.1, .int .i64 o0a.2.2.2.2.2.2.2.2.2.2.2.1, .int .i64 o0a.2.2.2.2.2.2.2.2.2.2.2.2.1, .int .i64 o0a.2.2.2.2.2.2.2.2.2.2.2.2.2.1, .int .i64 o0a.2.2.2.2.2.2.2.2.2.2.2.2.2.2.1, .int .i64 o0a.2.2.2.2.2.2.2.2.2.2.2.2.2.2.2.1, .int .i64 o0a.2.2.2.2.2.2.2.2.2.2.2.2.2.2.2.2] :: Cl p0aa 103 [.pointer (some ⟨p0aaa, 0, none⟩), .nilIface, .int .i64 o0aa.1, .int .i64 o0aa.2.1, .nilIface, .int .i64 o0aa.2.2.1, .int .i64 o0aa.2.2.2, .map (some m0aah), .slice none 0 0, .slice none 0 0, .map (some m0aak)] :: Cl p0aaa 124 [.int .i64 o0aaa.1, .map (some m0aaab), .pointer (some ⟨p0aaac, 0, none⟩), .int .i64 o0aaa.2.1, .int .u64 o0aaa.2.2.1, .int .i64 o0aaa.2.2.2] :: Mp E64 m0aaab q0aaab :: Cl p0aaac 74 [.int .i64 o0aaac.1, .map (some m0aaacb), .slice A0aaacc q0aaacc.length c0aaacc, .bool o0aaac.2.1, .int .i64 o0aaac.2.2.1, .int .i64 o0aaac.2.2.2.1, .int .u64 o0aaac.2.2.2.2.1, .int .i64 o0aaac.2.2.2.2.2.1, .int .i64 o0aaac.2.2.2.2.2.2] :: Mp (Elt.slice E8) m0aaacb q0aaacb :: Bf (Elt.pair E64 (Elt.slice E8)) 147 A0aaacc c0aaacc q0aaacc :: Mp E64 m0aah q0aah :: Mp E64 m0aak q0aak :: Bf (Elt.pair (Elt.pair E64 (Elt.pair (Elt.slice E8) (Elt.slice E8))) EBool) 91 A0b c0b q0b :: hs) w) {r : (Int × Int × Int) × Int} (hr : lease_Now.impl o0a o0aa o0aaa q0aaab o0aaac q0aaacb q0aaacc q0aah q0aak q0b = some r) :
    Calls Try.prog 13 #[.pointer (some ⟨p0, 0, none⟩)] w fun e w' => ∃ x : Unit, e = .returned (.tuple #[.agg #[.int .i64 r.1.1, .int .i64 r.1.2.1, .int .i64 r.1.2.2], .int .i64 r.2]) ∧ St B (Cl p0 88 [.pointer (some ⟨p0a, 0, none⟩), .slice A0b q0b.length c0b] :: Cl p0a 80 [.pointer (some ⟨p0aa, 0, none⟩), .int .i64 o0a.1, .int .i64 o0a.2.1, .int .i64 o0a.2.2.1, .int .i64 o0a.2.2.2.1, .int .i64 o0a.2.2.2.2.1, .int .i64 o0a.2.2.2.2.2.1, .int .i64 o0a.2.2.2.2.2.2.1, .int .i64 o0a.2.2.2.2.2.2.2.1, .int .i64 o0a.2.2.2.2.2.2.2.2.1, .int .i64 o0a.2.2.2.2.2.2.2.2.2.1, .int .i64 o0a.2.2.2.2.2.2.2.2.2.2.1, .int .i64 o0a.2.2.2.2.2.2.2.2.2.2.2.1, .int .i64 o0a.2.2.2.2.2.2.2.2.2.2.2.2.1, .int .i64 o0a.2.2.2.2.2.2.2.2.2.2.2.2.2.1, .int .i64 o0a.2.2.2.2.2.2.2.2.2.2.2.2.2.2.1, .int .i64 o0a.2.2.2.2.2.2.2.2.2.2.2.2.2.2.2.1, .int .i64 o0a.2.2.2.2.2.2.2.2.2.2.2.2.2.2.2.2] :: Cl p0aa 103 [.pointer (some ⟨p0aaa, 0, none⟩), .nilIface, .int .i64 o0aa.1, .int .i64 o0aa.2.1, .nilIface, .int .i64 o0aa.2.2.1, .int .i64 o0aa.2.2.2, .map (some m0aah), .slice none 0 0, .slice none 0 0, .map (some m0aak)] :: Cl p0aaa 124 [.int .i64 o0aaa.1, .map (some m0aaab), .pointer (some ⟨p0aaac, 0, none⟩), .int .i64 o0aaa.2.1, .int .u64 o0aaa.2.2.1, .int .i64 o0aaa.2.2.2] :: Mp E64 m0aaab q0aaab :: Cl p0aaac 74 [.int .i64 o0aaac.1, .map (some m0aaacb), .slice A0aaacc q0aaacc.length c0aaacc, .bool o0aaac.2.1, .int .i64 o0aaac.2.2.1, .int .i64 o0aaac.2.2.2.1, .int .u64 o0aaac.2.2.2.2.1, .int .i64 o0aaac.2.2.2.2.2.1, .int .i64 o0aaac.2.2.2.2.2.2] :: Mp (Elt.slice E8) m0aaacb q0aaacb :: Bf (Elt.pair E64 (Elt.slice E8)) 147 A0aaacc c0aaacc q0aaacc :: Mp E64 m0aah q0aah :: Mp E64 m0aak q0aak :: Bf (Elt.pair (Elt.pair E64 (Elt.pair (Elt.slice E8) (Elt.slice E8))) EBool) 91 A0b c0b q0b :: hs) w' := by
 unfold lease_Now.impl at hr
 refine calls_T Try.func13 rfl rfl rfl hS ?_
 refine T.seq ?_
 refine T.region ?_
 refine T.allocS .list rfl (wants0 rfl) rfl (cs := [.int .i64 0, .int .i64 0, .int .i64 0]) rfl (fun b1 => ?_)
 refine T.assign .list rfl (wants0 rfl) rfl rfl ?_
 refine T.nil ?_
 refine T.then_normal ?_
 refine T.seq ?_
 refine T.seq ?_
 refine T.region ?_
 refine T.move .list rfl (wants0 rfl) rfl rfl ?_
 refine T.ptrEq (pt := 88) .list rfl (wants0 rfl) rfl rfl rfl (by kernel_rfl) (.inr rfl) rfl ?_
 refine T.nil ?_
 refine T.then_normal ?_
 refine T.condF rfl rfl ?_
 refine T.skip ?_
 refine T.then_normal ?_
 refine T.seq ?_
 refine T.region ?_
 refine T.move .list rfl (wants0 rfl) rfl rfl ?_
 obtain ⟨r1, hg1, hr⟩ := inv_bind hr
 refine T.call .list (wants0 rfl) rfl (run_callF (vs := []) rfl Try.func27 rfl (by decide) rfl) (fun w hS => lease_key.c hS  hg1) (fun x1 => ?_)
 refine T.freeze 0 rfl rfl rfl ?_
 refine T.pick [2, 3, 4, 5, 6, 7, 8, 9, 10, 11, 12, 0, 1] 13 rfl rfl (Nat.le_add_left _ _) (hs' := Cl p0 88 [.pointer (some ⟨p0a, 0, none⟩), .slice A0b q0b.length c0b] :: Cl p0a 80 [.pointer (some ⟨p0aa, 0, none⟩), .int .i64 o0a.1, .int .i64 o0a.2.1, .int .i64 o0a.2.2.1, .int .i64 o0a.2.2.2.1, .int .i64 o0a.2.2.2.2.1, .int .i64 o0a.2.2.2.2.2.1, .int .i64 o0a.2.2.2.2.2.2.1, .int .i64 o0a.2.2.2.2.2.2.2.1, .int .i64 o0a.2.2.2.2.2.2.2.2.1, .int .i64 o0a.2.2.2.2.2.2.2.2.2.1, .int .i64 o0a.2.2.2.2.2.2.2.2.2.2.1, .int .i64 o0a.2.2.2.2.2.2.2.2.2.2.2.1, .int .i64 o0a.2.2.2.2.2.2.2.2.2.2.2.2.1, .int .i64 o0a.2.2.2.2.2.2.2.2.2.2.2.2.2.1, .int .i64 o0a.2.2.2.2.2.2.2.2.2.2.2.2.2.2.1, .int .i64 o0a.2.2.2.2.2.2.2.2.2.2.2.2.2.2.2.1, .int .i64 o0a.2.2.2.2.2.2.2.2.2.2.2.2.2.2.2.2] :: Cl p0aa 103 [.pointer (some ⟨p0aaa, 0, none⟩), .nilIface, .int .i64 o0aa.1, .int .i64 o0aa.2.1, .nilIface, .int .i64 o0aa.2.2.1, .int .i64 o0aa.2.2.2, .map (some m0aah), .slice none 0 0, .slice none 0 0, .map (some m0aak)] :: Cl p0aaa 124 [.int .i64 o0aaa.1, .map (some m0aaab), .pointer (some ⟨p0aaac, 0, none⟩), .int .i64 o0aaa.2.1, .int .u64 o0aaa.2.2.1, .int .i64 o0aaa.2.2.2] :: Mp E64 m0aaab q0aaab :: Cl p0aaac 74 [.int .i64 o0aaac.1, .map (some m0aaacb), .slice A0aaacc q0aaacc.length c0aaacc, .bool o0aaac.2.1, .int .i64 o0aaac.2.2.1, .int .i64 o0aaac.2.2.2.1, .int .u64 o0aaac.2.2.2.2.1, .int .i64 o0aaac.2.2.2.2.2.1, .int .i64 o0aaac.2.2.2.2.2.2] :: Mp (Elt.slice E8) m0aaacb q0aaacb :: Bf (Elt.pair E64 (Elt.slice E8)) 147 A0aaacc c0aaacc q0aaacc :: Mp E64 m0aah q0aah :: Mp E64 m0aak q0aak :: Bf (Elt.pair (Elt.pair E64 (Elt.pair (Elt.slice E8) (Elt.slice E8))) EBool) 91 A0b c0b q0b :: Ro E8 x1.1 x1.2 r1 :: Cl b1 28 [.int .i64 0, .int .i64 0, .int .i64 0] :: hs) rfl ?_
 obtain ⟨r2, hg2, hr⟩ := inv_bind hr
 refine T.call .list (wants0 rfl) rfl (run_callF (vs := [_, _, _]) rfl Try.func30 rfl (by decide) rfl) (fun w hS => draft_Draft_Get.c hS (i2 := 11) (o0a := (o0a.1, o0a.2.1, o0a.2.2.1, o0a.2.2.2.1, o0a.2.2.2.2.1, o0a.2.2.2.2.2.1, o0a.2.2.2.2.2.2.1, o0a.2.2.2.2.2.2.2.1, o0a.2.2.2.2.2.2.2.2.1, o0a.2.2.2.2.2.2.2.2.2.1, o0a.2.2.2.2.2.2.2.2.2.2.1, o0a.2.2.2.2.2.2.2.2.2.2.2.1, o0a.2.2.2.2.2.2.2.2.2.2.2.2.1, o0a.2.2.2.2.2.2.2.2.2.2.2.2.2.1, o0a.2.2.2.2.2.2.2.2.2.2.2.2.2.2.1, o0a.2.2.2.2.2.2.2.2.2.2.2.2.2.2.2.1, o0a.2.2.2.2.2.2.2.2.2.2.2.2.2.2.2.2)) (o0aa := (o0aa.1, o0aa.2.1, o0aa.2.2.1, o0aa.2.2.2)) (o0aaa := (o0aaa.1, o0aaa.2.1, o0aaa.2.2.1, o0aaa.2.2.2)) (q0aaab := q0aaab) (o0aaac := (o0aaac.1, o0aaac.2.1, o0aaac.2.2.1, o0aaac.2.2.2.1, o0aaac.2.2.2.2.1, o0aaac.2.2.2.2.2.1, o0aaac.2.2.2.2.2.2)) (q0aaacb := q0aaacb) (q0aaacc := q0aaacc) (q0aah := q0aah) (q0aak := q0aak) (q0b := q0b) rfl hg2) (fun x2 => ?_)
 refine T.move .list rfl (wants0 rfl) rfl rfl ?_
 refine T.extract .list rfl (wants0 rfl) rfl rfl rfl ?_
 refine T.extract .list rfl (wants0 rfl) rfl rfl rfl ?_
 refine T.extract .list rfl (wants0 rfl) rfl rfl rfl ?_
 refine T.assign .list rfl (wants0 rfl) rfl rfl ?_
 refine T.assign .list rfl (wants0 rfl) rfl rfl ?_
 refine T.assign .list rfl (wants0 rfl) rfl rfl ?_
 refine T.nil ?_
 refine T.then_normal ?_
 refine T.seq ?_
 refine T.seq ?_
 refine T.region ?_
 refine T.move .list rfl (wants0 rfl) rfl rfl ?_
 refine T.bin .list rfl (wants0 rfl) rfl rfl rfl rfl ?_
 refine T.nil ?_
 refine T.then_normal ?_
 refine T.cond rfl (fun hb1 => ?_) (fun hb1 => ?_)
 ·replace hr := inv_posB hb1 hr
  refine T.seq ?_
  refine T.region ?_
  refine T.build .list (vals := []) (cells := #[.int .i64 0, .int .i64 0, .int .i64 0]) rfl (wants0 rfl) rfl rfl (run_buildStruct (sizes := [1, 1, 1]) (by kernel_rfl) (by kernel_rfl)) ?_
  refine T.move .list rfl (wants0 rfl) rfl rfl ?_
  refine T.store .list 13 rfl rfl (wants0 rfl) rfl rfl rfl rfl (Nat.le_of_ble_eq_true rfl) rfl (cs' := [.int .i64 0, .int .i64 0, .int .i64 0]) rfl rfl ?_
  refine T.assign .list rfl (wants0 rfl) rfl rfl ?_
  refine T.nil ?_
  refine T.then_normal ?_
  refine T.ret ?_
  refine T.then_ret ?_
  obtain rfl := inv_some hr
  refine T.out2 rfl (OutRun.cellN 13 rfl rfl (vs := [.int .i64 0, .int .i64 0, .int .i64 0]) rfl rfl) (OutRun.tmp rfl) (fun w hS => ⟨(), rfl, hS.pick [1, 2, 3, 4, 5, 6, 7, 8, 9, 10, 11] 14 rfl rfl (Nat.le_add_left _ _) rfl⟩)
 ·replace hr := inv_negB hb1 hr
  refine T.skip ?_
  refine T.then_normal ?_
  refine T.seq ?_
  refine T.seq ?_
  refine T.region ?_
  refine T.move .list rfl (wants0 rfl) rfl rfl ?_
  refine T.not .list rfl (wants0 rfl) rfl rfl ?_
  refine T.nil ?_
  refine T.then_normal ?_
  refine T.cond rfl (fun hb2 => ?_) (fun hb2 => ?_)
  ·replace hr := inv_posB hb2 hr
   refine T.seq ?_
   refine T.region ?_
   obtain ⟨r3, hg3, hr⟩ := inv_bind hr
   refine T.call .list (wants0 rfl) rfl (run_callF (vs := []) rfl Try.func31 rfl (by decide) rfl) (fun w hS => lease_nobody.c hS  hg3) (fun x3 => ?_)
   refine T.store .list 13 rfl rfl (wants0 rfl) rfl rfl rfl rfl (Nat.le_of_ble_eq_true rfl) rfl (cs' := [.int .i64 r3.1, .int .i64 r3.2.1, .int .i64 r3.2.2]) rfl rfl ?_
   refine T.assign .list rfl (wants0 rfl) rfl rfl ?_
   refine T.nil ?_
   refine T.then_normal ?_
   refine T.ret ?_
   refine T.then_ret ?_
   obtain rfl := inv_some hr
   refine T.out2 rfl (OutRun.cellN 13 rfl rfl (vs := [.int .i64 r3.1, .int .i64 r3.2.1, .int .i64 r3.2.2]) rfl rfl) (OutRun.tmp rfl) (fun w hS => ⟨(), rfl, hS.pick [1, 2, 3, 4, 5, 6, 7, 8, 9, 10, 11] 14 rfl rfl (Nat.le_add_left _ _) rfl⟩)
  ·replace hr := inv_negB hb2 hr
   refine T.skip ?_
   refine T.then_normal ?_
   refine T.seq ?_
   refine T.region ?_
   refine T.move .list rfl (wants0 rfl) rfl rfl ?_
   obtain ⟨r4, hg4, hr⟩ := inv_bind hr
   refine T.call .list (wants0 rfl) rfl (run_callF (vs := [_, _]) rfl Try.func32 rfl (by decide) rfl) (fun w hS => (wire_ReadUint.c (St.borrow (ros := [Ro E8 x2.1 x2.2 r2.1]) (Ros.cons (hS.roBf 0 rfl rfl) Ros.nil)) (i0 := 0) rfl hg4).mono fun e w' ⟨x, he, h1⟩ => ⟨x, he, hS.unborrow (post := []) h1 Frees.nil⟩) (fun x4 => ?_)
   refine T.move .list rfl (wants0 rfl) rfl rfl ?_
   refine T.extract .list rfl (wants0 rfl) rfl rfl rfl ?_
   refine T.extract .list rfl (wants0 rfl) rfl rfl rfl ?_
   refine T.extract .list rfl (wants0 rfl) rfl rfl rfl ?_
   refine T.assign .list rfl (wants0 rfl) rfl rfl ?_
   refine T.assign .list rfl (wants0 rfl) rfl rfl ?_
   refine T.assign .list rfl (wants0 rfl) rfl rfl ?_
   refine T.nil ?_
   refine T.then_normal ?_
   refine T.seq ?_
   refine T.seq ?_
   refine T.region ?_
   refine T.move .list rfl (wants0 rfl) rfl rfl ?_
   refine T.bin .list rfl (wants0 rfl) rfl rfl rfl rfl ?_
   refine T.nil ?_
   refine T.then_normal ?_
   refine T.cond rfl (fun hb3 => ?_) (fun hb3 => ?_)
   ·replace hr := inv_posB hb3 hr
    refine T.seq ?_
    refine T.region ?_
    refine T.build .list (vals := []) (cells := #[.int .i64 0, .int .i64 0, .int .i64 0]) rfl (wants0 rfl) rfl rfl (run_buildStruct (sizes := [1, 1, 1]) (by kernel_rfl) (by kernel_rfl)) ?_
    refine T.store .list 13 rfl rfl (wants0 rfl) rfl rfl rfl rfl (Nat.le_of_ble_eq_true rfl) rfl (cs' := [.int .i64 0, .int .i64 0, .int .i64 0]) rfl rfl ?_
    refine T.assign .list rfl (wants0 rfl) rfl rfl ?_
    refine T.nil ?_
    refine T.then_normal ?_
    refine T.ret ?_
    refine T.then_ret ?_
    obtain rfl := inv_some hr
    refine T.out2 rfl (OutRun.cellN 13 rfl rfl (vs := [.int .i64 0, .int .i64 0, .int .i64 0]) rfl rfl) (OutRun.tmp rfl) (fun w hS => ⟨(), rfl, hS.pick [1, 2, 3, 4, 5, 6, 7, 8, 9, 10, 11] 14 rfl rfl (Nat.le_add_left _ _) rfl⟩)
   ·replace hr := inv_negB hb3 hr
    refine T.skip ?_
    refine T.then_normal ?_
    refine T.seq ?_
    refine T.region ?_
    refine T.move .list rfl (wants0 rfl) rfl rfl ?_
    refine T.move .list rfl (wants0 rfl) rfl rfl ?_
    obtain ⟨r5, hg5, hr⟩ := inv_bind hr
    refine T.call .list (wants0 rfl) rfl (run_callF (vs := [_, _]) rfl Try.func32 rfl (by decide) rfl) (fun w hS => (wire_ReadUint.c (St.borrow (ros := [Ro E8 x2.1 x2.2 r2.1]) (Ros.cons (hS.roBf 0 rfl rfl) Ros.nil)) (i0 := 0) rfl hg5).mono fun e w' ⟨x, he, h1⟩ => ⟨x, he, hS.unborrow (post := []) h1 Frees.nil⟩) (fun x5 => ?_)
    refine T.move .list rfl (wants0 rfl) rfl rfl ?_
    refine T.extract .list rfl (wants0 rfl) rfl rfl rfl ?_
    refine T.extract .list rfl (wants0 rfl) rfl rfl rfl ?_
    refine T.extract .list rfl (wants0 rfl) rfl rfl rfl ?_
    refine T.assign .list rfl (wants0 rfl) rfl rfl ?_
    refine T.assign .list rfl (wants0 rfl) rfl rfl ?_
    refine T.assign .list rfl (wants0 rfl) rfl rfl ?_
    refine T.nil ?_
    refine T.then_normal ?_
    refine T.seq ?_
    refine T.seq ?_
    refine T.region ?_
    refine T.move .list rfl (wants0 rfl) rfl rfl ?_
    refine T.bin .list rfl (wants0 rfl) rfl rfl rfl rfl ?_
    refine T.nil ?_
    refine T.then_normal ?_
    refine T.cond rfl (fun hb4 => ?_) (fun hb4 => ?_)
    ·replace hr := inv_posB hb4 hr
     refine T.seq ?_
     refine T.region ?_
     refine T.build .list (vals := []) (cells := #[.int .i64 0, .int .i64 0, .int .i64 0]) rfl (wants0 rfl) rfl rfl (run_buildStruct (sizes := [1, 1, 1]) (by kernel_rfl) (by kernel_rfl)) ?_
     refine T.store .list 13 rfl rfl (wants0 rfl) rfl rfl rfl rfl (Nat.le_of_ble_eq_true rfl) rfl (cs' := [.int .i64 0, .int .i64 0, .int .i64 0]) rfl rfl ?_
     refine T.assign .list rfl (wants0 rfl) rfl rfl ?_
     refine T.nil ?_
     refine T.then_normal ?_
     refine T.ret ?_
     refine T.then_ret ?_
     obtain rfl := inv_some hr
     refine T.out2 rfl (OutRun.cellN 13 rfl rfl (vs := [.int .i64 0, .int .i64 0, .int .i64 0]) rfl rfl) (OutRun.tmp rfl) (fun w hS => ⟨(), rfl, hS.pick [1, 2, 3, 4, 5, 6, 7, 8, 9, 10, 11] 14 rfl rfl (Nat.le_add_left _ _) rfl⟩)
    ·replace hr := inv_negB hb4 hr
     refine T.skip ?_
     refine T.then_normal ?_
     refine T.seq ?_
     refine T.region ?_
     refine T.move .list rfl (wants0 rfl) rfl rfl ?_
     refine T.bin .list rfl (wants0 rfl) rfl rfl rfl rfl ?_
     refine T.move .list rfl (wants0 rfl) rfl rfl ?_
     refine T.shr .list rfl (wants0 rfl) rfl rfl rfl (by decide) ?_
     refine T.move .list rfl (wants0 rfl) rfl rfl ?_
     refine T.build .list (vals := [(0, .int .i64 (bitsOf .and .i64 r4.1 3)), (1, .int .i64 (shrI .i64 r4.1 2)), (2, .int .i64 r5.1)]) (cells := #[.int .i64 (bitsOf .and .i64 r4.1 3), .int .i64 (shrI .i64 r4.1 2), .int .i64 r5.1]) rfl (wants0 rfl) rfl rfl (run_buildStruct (sizes := [1, 1, 1]) (by kernel_rfl) (by kernel_rfl)) ?_
     refine T.store .list 13 rfl rfl (wants0 rfl) rfl rfl rfl rfl (Nat.le_of_ble_eq_true rfl) rfl (cs' := [.int .i64 (bitsOf .and .i64 r4.1 3), .int .i64 (shrI .i64 r4.1 2), .int .i64 r5.1]) rfl rfl ?_
     refine T.assign .list rfl (wants0 rfl) rfl rfl ?_
     refine T.nil ?_
     refine T.then_normal ?_
     refine T.ret ?_
     obtain rfl := inv_some hr
     refine T.out2 rfl (OutRun.cellN 13 rfl rfl (vs := [.int .i64 (bitsOf .and .i64 r4.1 3), .int .i64 (shrI .i64 r4.1 2), .int .i64 r5.1]) rfl rfl) (OutRun.tmp rfl) (fun w hS => ⟨(), rfl, hS.pick [1, 2, 3, 4, 5, 6, 7, 8, 9, 10, 11] 14 rfl rfl (Nat.le_add_left _ _) rfl⟩)

noncomputable def lease_May.impl (a0 : Int × Int × Int) (a1 : Int) : Option Bool :=
  (if ((decide (a0.1 = (-1)))) = true then some true else some (decide (a0.1 = a1)))
set_option maxRecDepth 100000 in
set_option maxHeartbeats 4000000 in
theorem lease_May.c {B : World} {hs : List MP} {w : World} {a0 : Int × Int × Int} {a1 : Int} (hS : St B (hs) w) {r : Bool} (hr : lease_May.impl a0 a1 = some r) :
    Calls Try.prog 14 #[.agg #[.int .i64 a0.1, .int .i64 a0.2.1, .int .i64 a0.2.2], .int .i64 a1] w fun e w' => ∃ x : Unit, e = .returned (.bool r) ∧ St B (hs) w' := by
 unfold lease_May.impl at hr
 refine calls_T Try.func14 rfl rfl rfl hS ?_
 refine T.seq ?_
 refine T.region ?_
 refine T.boxS .list rfl (wants0 rfl) rfl rfl (cs := [.int .i64 a0.1, .int .i64 a0.2.1, .int .i64 a0.2.2]) rfl (fun b1 => ?_)
 refine T.assign .list rfl (wants0 rfl) rfl rfl ?_
 refine T.nil ?_
 refine T.then_normal ?_
 refine T.seq ?_
 refine T.region ?_
 refine T.field .list rfl (wants0 rfl) rfl rfl ?_
 refine T.load .list 0 rfl rfl (wants0 rfl) rfl rfl rfl ?_
 refine T.bin .list rfl (wants0 rfl) rfl rfl rfl rfl ?_
 refine T.move .list rfl (wants0 rfl) rfl rfl ?_
 refine T.bool (b := (decide (a0.1 = (-1)))) (fun hb1 => ?_) (fun hb1 => ?_)
 ·replace hr := inv_posB hb1 hr
  refine T.leave .list (wantsNot rfl rfl rfl hb1) rfl ?_
  refine T.leave .list (wantsNot rfl rfl rfl hb1) rfl ?_
  refine T.leave .list (wantsNot rfl rfl rfl hb1) rfl ?_
  refine T.leave .list (wantsNot rfl rfl rfl hb1) rfl ?_
  refine T.pickT .list rfl (wants0 rfl) rfl rfl hb1 rfl ?_
  refine T.assign .list rfl (wants0 rfl) rfl rfl ?_
  refine T.nil ?_
  refine T.then_normal ?_
  refine T.ret ?_
  obtain rfl := inv_some hr
  refine T.pick [] 1 rfl rfl (Nat.le_add_left _ _) rfl ?_
  refine T.ret1 rfl rfl (fun w hS => ⟨(), rfl, hS⟩)
 ·replace hr := inv_negB hb1 hr
  refine T.field .list rfl (wants1 rfl rfl rfl hb1) rfl rfl ?_
  refine T.load .list 0 rfl rfl (wants1 rfl rfl rfl hb1) rfl rfl rfl ?_
  refine T.move .list rfl (wants1 rfl rfl rfl hb1) rfl rfl ?_
  refine T.bin .list rfl (wants1 rfl rfl rfl hb1) rfl rfl rfl rfl ?_
  refine T.pickF .list rfl (wants0 rfl) rfl rfl hb1 rfl ?_
  refine T.assign .list rfl (wants0 rfl) rfl rfl ?_
  refine T.nil ?_
  refine T.then_normal ?_
  refine T.ret ?_
  obtain rfl := inv_some hr
  refine T.pick [] 1 rfl rfl (Nat.le_add_left _ _) rfl ?_
  refine T.ret1 rfl rfl (fun w hS => ⟨(), rfl, hS⟩)

noncomputable def lease_Grant.k2 (r1 : (Int × Int × Int) × Int) (q0b : List ((Int × (List UInt8) × (List UInt8)) × Bool)) (a1 : Int) (a2 : Int) (a3 : Int) (o0a : Int × Int × Int × Int × Int × Int × Int × Int × Int × Int × Int × Int × Int × Int × Int × Int × Int) (o0aa : Int × Int × Int × Int) (o0aaa : Int × Int × Int × Int) (q0aaab : List (Int × Int)) (o0aaac : Int × Bool × Int × Int × Int × Int × Int) (q0aaacb : List (Int × (List UInt8))) (q0aaacc : List (Int × (List UInt8))) (q0aah : List (Int × Int)) (q0aak : List (Int × Int)) (s2 : Bool) : Option (Bool × Int × (List ((Int × (List UInt8) × (List UInt8)) × Bool))) :=
  (if s2 = true then some (false, r1.2, q0b) else (lease_key.impl ).bind fun r2 => (lease_bytes.impl ((a1, a2, a3))).bind fun r3 => (draft_Draft_Put.impl ((o0a.1, o0a.2.1, o0a.2.2.1, o0a.2.2.2.1, o0a.2.2.2.2.1, o0a.2.2.2.2.2.1, o0a.2.2.2.2.2.2.1, o0a.2.2.2.2.2.2.2.1, o0a.2.2.2.2.2.2.2.2.1, o0a.2.2.2.2.2.2.2.2.2.1, o0a.2.2.2.2.2.2.2.2.2.2.1, o0a.2.2.2.2.2.2.2.2.2.2.2.1, o0a.2.2.2.2.2.2.2.2.2.2.2.2.1, o0a.2.2.2.2.2.2.2.2.2.2.2.2.2.1, o0a.2.2.2.2.2.2.2.2.2.2.2.2.2.2.1, o0a.2.2.2.2.2.2.2.2.2.2.2.2.2.2.2.1, o0a.2.2.2.2.2.2.2.2.2.2.2.2.2.2.2.2)) ((o0aa.1, o0aa.2.1, o0aa.2.2.1, o0aa.2.2.2)) ((o0aaa.1, o0aaa.2.1, o0aaa.2.2.1, o0aaa.2.2.2)) q0aaab ((o0aaac.1, o0aaac.2.1, o0aaac.2.2.1, o0aaac.2.2.2.1, o0aaac.2.2.2.2.1, o0aaac.2.2.2.2.2.1, o0aaac.2.2.2.2.2.2)) q0aaacb q0aaacc q0aah q0aak q0b 5 r2 r3).bind fun r4 => some ((decide (r4.1 = 0)), r4.1, r4.2))
noncomputable def lease_Grant.k1 (q0b : List ((Int × (List UInt8) × (List UInt8)) × Bool)) (o0a : Int × Int × Int × Int × Int × Int × Int × Int × Int × Int × Int × Int × Int × Int × Int × Int × Int) (o0aa : Int × Int × Int × Int) (o0aaa : Int × Int × Int × Int) (q0aaab : List (Int × Int)) (o0aaac : Int × Bool × Int × Int × Int × Int × Int) (q0aaacb : List (Int × (List UInt8))) (q0aaacc : List (Int × (List UInt8))) (q0aah : List (Int × Int)) (q0aak : List (Int × Int)) (a1 : Int) (a2 : Int) (a3 : Int) (s1 : Bool) : Option (Bool × Int × (List ((Int × (List UInt8) × (List UInt8)) × Bool))) :=
  (if s1 = true then some (false, 1, q0b) else (lease_Now.impl ((o0a.1, o0a.2.1, o0a.2.2.1, o0a.2.2.2.1, o0a.2.2.2.2.1, o0a.2.2.2.2.2.1, o0a.2.2.2.2.2.2.1, o0a.2.2.2.2.2.2.2.1, o0a.2.2.2.2.2.2.2.2.1, o0a.2.2.2.2.2.2.2.2.2.1, o0a.2.2.2.2.2.2.2.2.2.2.1, o0a.2.2.2.2.2.2.2.2.2.2.2.1, o0a.2.2.2.2.2.2.2.2.2.2.2.2.1, o0a.2.2.2.2.2.2.2.2.2.2.2.2.2.1, o0a.2.2.2.2.2.2.2.2.2.2.2.2.2.2.1, o0a.2.2.2.2.2.2.2.2.2.2.2.2.2.2.2.1, o0a.2.2.2.2.2.2.2.2.2.2.2.2.2.2.2.2)) ((o0aa.1, o0aa.2.1, o0aa.2.2.1, o0aa.2.2.2)) ((o0aaa.1, o0aaa.2.1, o0aaa.2.2.1, o0aaa.2.2.2)) q0aaab ((o0aaac.1, o0aaac.2.1, o0aaac.2.2.1, o0aaac.2.2.2.1, o0aaac.2.2.2.2.1, o0aaac.2.2.2.2.2.1, o0aaac.2.2.2.2.2.2)) q0aaacb q0aaacc q0aah q0aak q0b).bind fun r1 => (if ((decide (r1.2 = 0))) = true then (lease_May.impl ((r1.1.1, r1.1.2.1, r1.1.2.2)) a1).bind fun r5 => lease_Grant.k2 r1 q0b a1 a2 a3 o0a o0aa o0aaa q0aaab o0aaac q0aaacb q0aaacc q0aah q0aak (!r5) else lease_Grant.k2 r1 q0b a1 a2 a3 o0a o0aa o0aaa q0aaab o0aaac q0aaacb q0aaacc q0aah q0aak true))
noncomputable def lease_Grant.impl (o0a : Int × Int × Int × Int × Int × Int × Int × Int × Int × Int × Int × Int × Int × Int × Int × Int × Int) (o0aa : Int × Int × Int × Int) (o0aaa : Int × Int × Int × Int) (q0aaab : List (Int × Int)) (o0aaac : Int × Bool × Int × Int × Int × Int × Int) (q0aaacb : List (Int × (List UInt8))) (q0aaacc : List (Int × (List UInt8))) (q0aah : List (Int × Int)) (q0aak : List (Int × Int)) (q0b : List ((Int × (List UInt8) × (List UInt8)) × Bool)) (a1 : Int) (a2 : Int) (a3 : Int) : Option (Bool × Int × (List ((Int × (List UInt8) × (List UInt8)) × Bool))) :=
  (if ((decide (a1 < 0))) = true then lease_Grant.k1 q0b o0a o0aa o0aaa q0aaab o0aaac q0aaacb q0aaacc q0aah q0aak a1 a2 a3 true else (if ((decide ((4 : Int) ≤ a1))) = true then lease_Grant.k1 q0b o0a o0aa o0aaa q0aaab o0aaac q0aaacb q0aaacc q0aah q0aak a1 a2 a3 true else (if ((decide (a2 < 1))) = true then lease_Grant.k1 q0b o0a o0aa o0aaa q0aaab o0aaac q0aaacb q0aaacc q0aah q0aak a1 a2 a3 true else (if ((decide ((1048576 : Int) < a2))) = true then lease_Grant.k1 q0b o0a o0aa o0aaa q0aaab o0aaac q0aaacb q0aaacc q0aah q0aak a1 a2 a3 true else lease_Grant.k1 q0b o0a o0aa o0aaa q0aaab o0aaac q0aaacb q0aaacc q0aah q0aak a1 a2 a3 (decide (a3 < 0))))))
set_option maxRecDepth 100000 in
set_option maxHeartbeats 4000000 in
theorem lease_Grant.c {B : World} {hs : List MP} {w : World} {p0 : Nat} {p0a : Nat} {o0a : Int × Int × Int × Int × Int × Int × Int × Int × Int × Int × Int × Int × Int × Int × Int × Int × Int} {p0aa : Nat} {o0aa : Int × Int × Int × Int} {p0aaa : Nat} {o0aaa : Int × Int × Int × Int} {m0aaab : Nat} {q0aaab : List (Int × Int)} {p0aaac : Nat} {o0aaac : Int × Bool × Int × Int × Int × Int × Int} {m0aaacb : Nat} {q0aaacb : List (Int × (List UInt8))} {c0aaacc : Nat} {A0aaacc : Option Addr} {q0aaacc : List (Int × (List UInt8))} {m0aah : Nat} {q0aah : List (Int × Int)} {m0aak : Nat} {q0aak : List (Int × Int)} {c0b : Nat} {A0b : Option Addr} {q0b : List ((Int × (List UInt8) × (List UInt8)) × Bool)} {a1 : Int} {a2 : Int} {a3 : Int} (hS : St B (Cl p0 88 [.pointer (some ⟨p0a, 0, none⟩), .slice A0b q0b.length c0b] :: Cl p0a 80 [.pointer (some ⟨p0aa, 0, none⟩), .int .i64 o0a.1, .int .i64 o0a.2.1, .int .i64 o0a.2.2.1, .int .i64 o0a.2.2.2.1, .int .i64 o0a.2.2.2.2.1, .int .i64 o0a.2.2.2.2.2.1, .int .i64 o0a.2.2.2.2.2.2.1, .int .i64 o0a.2.2.2.2.2.2.2.1, .int .i64 o0a.2.2.2.2.2.2.2.2.1, .int .i64 o0a.2.2.2.2.2.2.2.2.2.1, .int .i64 o0a.2.2.2.2.2.2.2.2.2.2.1, .int .i64 o0a.2.2.2.2.2.2.2.2.2.2.2.1, .int .i64 o0a.2.2.2.2.2.2.2.2.2.2.2.2.1, .int .i64 o0a.2.2.2.2.2.2.2.2.2.2.2.2.2.1, .int .i64 o0a.2.2.2.2.2.2.2.2.2.2.2.2.2.2.1, .int .i64 o0a.2.2.2.2.2.2.2.2.2.2.2.2.2.2.2.1, .int .i64 o0a.2.2.2.2.2.2.2.2.2.2.2.2.2.2.2.2] :: Cl p0aa 103 [.pointer (some ⟨p0aaa, 0, none⟩), .nilIface, .int .i64 o0aa.1, .int .i64 o0aa.2.1, .nilIface, .int .i64 o0aa.2.2.1, .int .i64 o0aa.2.2.2, .map (some m0aah), .slice none 0 0, .slice none 0 0, .map (some m0aak)] :: Cl p0aaa 124 [.int .i64 o0aaa.1, .map (some m0aaab), .pointer (some ⟨p0aaac, 0, none⟩), .int .i64 o0aaa.2.1, .int .u64 o0aaa.2.2.1, .int .i64 o0aaa.2.2.2] :: Mp E64 m0aaab q0aaab :: Cl p0aaac 74 [.int .i64 o0aaac.1, .map (some m0aaacb), .slice A0aaacc q0aaacc.length c0aaacc, .bool o0aaac.2.1, .int .i64 o0aaac.2.2.1, .int .i64 o0aaac.2.2.2.1, .int .u64 o0aaac.2.2.2.2.1, .int .i64 o0aaac.2.2.2.2.2.1, .int .i64 o0aaac.2.2.2.2.2.2] :: Mp (Elt.slice E8) m0aaacb q0aaacb :: Bf (Elt.pair E64 (Elt.slice E8)) 147 A0aaacc c0aaacc q0aaacc :: Mp E64 m0aah q0aah :: Mp E64 m0aak q0aak :: Bf (Elt.pair (Elt.pair E64 (Elt.pair (Elt.slice E8) (Elt.slice E8))) EBool) 91 A0b c0b q0b :: hs) w) {r : Bool × Int × (List ((Int × (List UInt8) × (List UInt8)) × Bool))} (hr : lease_Grant.impl o0a o0aa o0aaa q0aaab o0aaac q0aaacb q0aaacc q0aah q0aak q0b a1 a2 a3 = some r) :
    Calls Try.prog 9 #[.pointer (some ⟨p0, 0, none⟩), .int .i64 a1, .int .i64 a2, .int .i64 a3] w fun e w' => ∃ x : (Option Addr × Nat), e = .returned (.tuple #[.bool r.1, .int .i64 r.2.1]) ∧ St B (Cl p0 88 [.pointer (some ⟨p0a, 0, none⟩), .slice x.1 r.2.2.length x.2] :: Cl p0a 80 [.pointer (some ⟨p0aa, 0, none⟩), .int .i64 o0a.1, .int .i64 o0a.2.1, .int .i64 o0a.2.2.1, .int .i64 o0a.2.2.2.1, .int .i64 o0a.2.2.2.2.1, .int .i64 o0a.2.2.2.2.2.1, .int .i64 o0a.2.2.2.2.2.2.1, .int .i64 o0a.2.2.2.2.2.2.2.1, .int .i64 o0a.2.2.2.2.2.2.2.2.1, .int .i64 o0a.2.2.2.2.2.2.2.2.2.1, .int .i64 o0a.2.2.2.2.2.2.2.2.2.2.1, .int .i64 o0a.2.2.2.2.2.2.2.2.2.2.2.1, .int .i64 o0a.2.2.2.2.2.2.2.2.2.2.2.2.1, .int .i64 o0a.2.2.2.2.2.2.2.2.2.2.2.2.2.1, .int .i64 o0a.2.2.2.2.2.2.2.2.2.2.2.2.2.2.1, .int .i64 o0a.2.2.2.2.2.2.2.2.2.2.2.2.2.2.2.1, .int .i64 o0a.2.2.2.2.2.2.2.2.2.2.2.2.2.2.2.2] :: Cl p0aa 103 [.pointer (some ⟨p0aaa, 0, none⟩), .nilIface, .int .i64 o0aa.1, .int .i64 o0aa.2.1, .nilIface, .int .i64 o0aa.2.2.1, .int .i64 o0aa.2.2.2, .map (some m0aah), .slice none 0 0, .slice none 0 0, .map (some m0aak)] :: Cl p0aaa 124 [.int .i64 o0aaa.1, .map (some m0aaab), .pointer (some ⟨p0aaac, 0, none⟩), .int .i64 o0aaa.2.1, .int .u64 o0aaa.2.2.1, .int .i64 o0aaa.2.2.2] :: Mp E64 m0aaab q0aaab :: Cl p0aaac 74 [.int .i64 o0aaac.1, .map (some m0aaacb), .slice A0aaacc q0aaacc.length c0aaacc, .bool o0aaac.2.1, .int .i64 o0aaac.2.2.1, .int .i64 o0aaac.2.2.2.1, .int .u64 o0aaac.2.2.2.2.1, .int .i64 o0aaac.2.2.2.2.2.1, .int .i64 o0aaac.2.2.2.2.2.2] :: Mp (Elt.slice E8) m0aaacb q0aaacb :: Bf (Elt.pair E64 (Elt.slice E8)) 147 A0aaacc c0aaacc q0aaacc :: Mp E64 m0aah q0aah :: Mp E64 m0aak q0aak :: Bf (Elt.pair (Elt.pair E64 (Elt.pair (Elt.slice E8) (Elt.slice E8))) EBool) 91 x.1 x.2 r.2.2 :: hs) w' := by
 unfold lease_Grant.impl at hr
 refine calls_T Try.func9 rfl rfl rfl hS ?_
 refine T.seq ?_
 refine T.region ?_
 refine T.assign .list rfl (wants0 rfl) rfl rfl ?_
 refine T.assign .list rfl (wants0 rfl) rfl rfl ?_
 refine T.nil ?_
 refine T.then_normal ?_
 refine T.seq ?_
 refine T.seqJ (fun (s1 : Bool) (x1 : Unit) => [(0, .pointer (some ⟨p0, 0, none⟩)), (1, .int .i64 a1), (2, .int .i64 a2), (3, .int .i64 a3), (33, .bool s1)]) (fun s1 x1 => Cl p0 88 [.pointer (some ⟨p0a, 0, none⟩), .slice A0b q0b.length c0b] :: Cl p0a 80 [.pointer (some ⟨p0aa, 0, none⟩), .int .i64 o0a.1, .int .i64 o0a.2.1, .int .i64 o0a.2.2.1, .int .i64 o0a.2.2.2.1, .int .i64 o0a.2.2.2.2.1, .int .i64 o0a.2.2.2.2.2.1, .int .i64 o0a.2.2.2.2.2.2.1, .int .i64 o0a.2.2.2.2.2.2.2.1, .int .i64 o0a.2.2.2.2.2.2.2.2.1, .int .i64 o0a.2.2.2.2.2.2.2.2.2.1, .int .i64 o0a.2.2.2.2.2.2.2.2.2.2.1, .int .i64 o0a.2.2.2.2.2.2.2.2.2.2.2.1, .int .i64 o0a.2.2.2.2.2.2.2.2.2.2.2.2.1, .int .i64 o0a.2.2.2.2.2.2.2.2.2.2.2.2.2.1, .int .i64 o0a.2.2.2.2.2.2.2.2.2.2.2.2.2.2.1, .int .i64 o0a.2.2.2.2.2.2.2.2.2.2.2.2.2.2.2.1, .int .i64 o0a.2.2.2.2.2.2.2.2.2.2.2.2.2.2.2.2] :: Cl p0aa 103 [.pointer (some ⟨p0aaa, 0, none⟩), .nilIface, .int .i64 o0aa.1, .int .i64 o0aa.2.1, .nilIface, .int .i64 o0aa.2.2.1, .int .i64 o0aa.2.2.2, .map (some m0aah), .slice none 0 0, .slice none 0 0, .map (some m0aak)] :: Cl p0aaa 124 [.int .i64 o0aaa.1, .map (some m0aaab), .pointer (some ⟨p0aaac, 0, none⟩), .int .i64 o0aaa.2.1, .int .u64 o0aaa.2.2.1, .int .i64 o0aaa.2.2.2] :: Mp E64 m0aaab q0aaab :: Cl p0aaac 74 [.int .i64 o0aaac.1, .map (some m0aaacb), .slice A0aaacc q0aaacc.length c0aaacc, .bool o0aaac.2.1, .int .i64 o0aaac.2.2.1, .int .i64 o0aaac.2.2.2.1, .int .u64 o0aaac.2.2.2.2.1, .int .i64 o0aaac.2.2.2.2.2.1, .int .i64 o0aaac.2.2.2.2.2.2] :: Mp (Elt.slice E8) m0aaacb q0aaacb :: Bf (Elt.pair E64 (Elt.slice E8)) 147 A0aaacc c0aaacc q0aaacc :: Mp E64 m0aah q0aah :: Mp E64 m0aak q0aak :: Bf (Elt.pair (Elt.pair E64 (Elt.pair (Elt.slice E8) (Elt.slice E8))) EBool) 91 A0b c0b q0b :: hs) (fun s1 => lease_Grant.k1 q0b o0a o0aa o0aaa q0aaab o0aaac q0aaacb q0aaacc q0aah q0aak a1 a2 a3 s1 = some r) (fun s1 x1 hk1 => ?_) (fun J1 => ?_)
 ·unfold lease_Grant.k1 at hk1
  refine T.cond rfl (fun hb1 => ?_) (fun hb1 => ?_)
  ·replace hk1 := inv_posB hb1 hk1
   refine T.seq ?_
   refine T.region ?_
   refine T.assign .list rfl (wants0 rfl) rfl rfl ?_
   refine T.assign .list rfl (wants0 rfl) rfl rfl ?_
   refine T.nil ?_
   refine T.then_normal ?_
   refine T.ret ?_
   refine T.then_ret ?_
   obtain rfl := inv_some hk1
   refine T.pick [0, 1, 2, 3, 4, 5, 6, 7, 8, 9, 10] 11 rfl rfl (Nat.le_add_left _ _) rfl ?_
   refine T.ret2 rfl rfl rfl (fun w hS => ⟨(A0b, c0b), rfl, hS⟩)
  ·replace hk1 := inv_negB hb1 hk1
   refine T.skip ?_
   refine T.then_normal ?_
   refine T.seq ?_
   refine T.region ?_
   refine T.move .list rfl (wants0 rfl) rfl rfl ?_
   refine T.pick [0, 1, 2, 3, 4, 5, 6, 7, 8, 9, 10] 11 rfl rfl (Nat.le_add_left _ _) (hs' := Cl p0 88 [.pointer (some ⟨p0a, 0, none⟩), .slice A0b q0b.length c0b] :: Cl p0a 80 [.pointer (some ⟨p0aa, 0, none⟩), .int .i64 o0a.1, .int .i64 o0a.2.1, .int .i64 o0a.2.2.1, .int .i64 o0a.2.2.2.1, .int .i64 o0a.2.2.2.2.1, .int .i64 o0a.2.2.2.2.2.1, .int .i64 o0a.2.2.2.2.2.2.1, .int .i64 o0a.2.2.2.2.2.2.2.1, .int .i64 o0a.2.2.2.2.2.2.2.2.1, .int .i64 o0a.2.2.2.2.2.2.2.2.2.1, .int .i64 o0a.2.2.2.2.2.2.2.2.2.2.1, .int .i64 o0a.2.2.2.2.2.2.2.2.2.2.2.1, .int .i64 o0a.2.2.2.2.2.2.2.2.2.2.2.2.1, .int .i64 o0a.2.2.2.2.2.2.2.2.2.2.2.2.2.1, .int .i64 o0a.2.2.2.2.2.2.2.2.2.2.2.2.2.2.1, .int .i64 o0a.2.2.2.2.2.2.2.2.2.2.2.2.2.2.2.1, .int .i64 o0a.2.2.2.2.2.2.2.2.2.2.2.2.2.2.2.2] :: Cl p0aa 103 [.pointer (some ⟨p0aaa, 0, none⟩), .nilIface, .int .i64 o0aa.1, .int .i64 o0aa.2.1, .nilIface, .int .i64 o0aa.2.2.1, .int .i64 o0aa.2.2.2, .map (some m0aah), .slice none 0 0, .slice none 0 0, .map (some m0aak)] :: Cl p0aaa 124 [.int .i64 o0aaa.1, .map (some m0aaab), .pointer (some ⟨p0aaac, 0, none⟩), .int .i64 o0aaa.2.1, .int .u64 o0aaa.2.2.1, .int .i64 o0aaa.2.2.2] :: Mp E64 m0aaab q0aaab :: Cl p0aaac 74 [.int .i64 o0aaac.1, .map (some m0aaacb), .slice A0aaacc q0aaacc.length c0aaacc, .bool o0aaac.2.1, .int .i64 o0aaac.2.2.1, .int .i64 o0aaac.2.2.2.1, .int .u64 o0aaac.2.2.2.2.1, .int .i64 o0aaac.2.2.2.2.2.1, .int .i64 o0aaac.2.2.2.2.2.2] :: Mp (Elt.slice E8) m0aaacb q0aaacb :: Bf (Elt.pair E64 (Elt.slice E8)) 147 A0aaacc c0aaacc q0aaacc :: Mp E64 m0aah q0aah :: Mp E64 m0aak q0aak :: Bf (Elt.pair (Elt.pair E64 (Elt.pair (Elt.slice E8) (Elt.slice E8))) EBool) 91 A0b c0b q0b :: hs) rfl ?_
   obtain ⟨r1, hg1, hk1⟩ := inv_bind hk1
   refine T.call .list (wants0 rfl) rfl (run_callF (vs := [_]) rfl Try.func13 rfl (by decide) rfl) (fun w hS => lease_Now.c hS (o0a := (o0a.1, o0a.2.1, o0a.2.2.1, o0a.2.2.2.1, o0a.2.2.2.2.1, o0a.2.2.2.2.2.1, o0a.2.2.2.2.2.2.1, o0a.2.2.2.2.2.2.2.1, o0a.2.2.2.2.2.2.2.2.1, o0a.2.2.2.2.2.2.2.2.2.1, o0a.2.2.2.2.2.2.2.2.2.2.1, o0a.2.2.2.2.2.2.2.2.2.2.2.1, o0a.2.2.2.2.2.2.2.2.2.2.2.2.1, o0a.2.2.2.2.2.2.2.2.2.2.2.2.2.1, o0a.2.2.2.2.2.2.2.2.2.2.2.2.2.2.1, o0a.2.2.2.2.2.2.2.2.2.2.2.2.2.2.2.1, o0a.2.2.2.2.2.2.2.2.2.2.2.2.2.2.2.2)) (o0aa := (o0aa.1, o0aa.2.1, o0aa.2.2.1, o0aa.2.2.2)) (o0aaa := (o0aaa.1, o0aaa.2.1, o0aaa.2.2.1, o0aaa.2.2.2)) (q0aaab := q0aaab) (o0aaac := (o0aaac.1, o0aaac.2.1, o0aaac.2.2.1, o0aaac.2.2.2.1, o0aaac.2.2.2.2.1, o0aaac.2.2.2.2.2.1, o0aaac.2.2.2.2.2.2)) (q0aaacb := q0aaacb) (q0aaacc := q0aaacc) (q0aah := q0aah) (q0aak := q0aak) (q0b := q0b)  hg1) (fun x2 => ?_)
   refine T.move .list rfl (wants0 rfl) rfl rfl ?_
   refine T.extract .list rfl (wants0 rfl) rfl rfl rfl ?_
   refine T.extract .list rfl (wants0 rfl) rfl rfl rfl ?_
   refine T.allocS .list rfl (wants0 rfl) rfl (cs := [.int .i64 0, .int .i64 0, .int .i64 0]) rfl (fun b1 => ?_)
   refine T.store .list 0 rfl rfl (wants0 rfl) rfl rfl rfl rfl (Nat.le_of_ble_eq_true rfl) rfl (cs' := [.int .i64 r1.1.1, .int .i64 r1.1.2.1, .int .i64 r1.1.2.2]) rfl rfl ?_
   refine T.assign .list rfl (wants0 rfl) rfl rfl ?_
   refine T.nil ?_
   refine T.then_normal ?_
   refine T.seq ?_
   refine T.seqJ (fun (s2 : Bool) (x3 : Unit) => [(0, .pointer (some ⟨p0, 0, none⟩)), (1, .int .i64 a1), (2, .int .i64 a2), (3, .int .i64 a3), (11, .int .i64 r1.2), (46, .bool s2)]) (fun s2 x3 => Cl p0 88 [.pointer (some ⟨p0a, 0, none⟩), .slice A0b q0b.length c0b] :: Cl p0a 80 [.pointer (some ⟨p0aa, 0, none⟩), .int .i64 o0a.1, .int .i64 o0a.2.1, .int .i64 o0a.2.2.1, .int .i64 o0a.2.2.2.1, .int .i64 o0a.2.2.2.2.1, .int .i64 o0a.2.2.2.2.2.1, .int .i64 o0a.2.2.2.2.2.2.1, .int .i64 o0a.2.2.2.2.2.2.2.1, .int .i64 o0a.2.2.2.2.2.2.2.2.1, .int .i64 o0a.2.2.2.2.2.2.2.2.2.1, .int .i64 o0a.2.2.2.2.2.2.2.2.2.2.1, .int .i64 o0a.2.2.2.2.2.2.2.2.2.2.2.1, .int .i64 o0a.2.2.2.2.2.2.2.2.2.2.2.2.1, .int .i64 o0a.2.2.2.2.2.2.2.2.2.2.2.2.2.1, .int .i64 o0a.2.2.2.2.2.2.2.2.2.2.2.2.2.2.1, .int .i64 o0a.2.2.2.2.2.2.2.2.2.2.2.2.2.2.2.1, .int .i64 o0a.2.2.2.2.2.2.2.2.2.2.2.2.2.2.2.2] :: Cl p0aa 103 [.pointer (some ⟨p0aaa, 0, none⟩), .nilIface, .int .i64 o0aa.1, .int .i64 o0aa.2.1, .nilIface, .int .i64 o0aa.2.2.1, .int .i64 o0aa.2.2.2, .map (some m0aah), .slice none 0 0, .slice none 0 0, .map (some m0aak)] :: Cl p0aaa 124 [.int .i64 o0aaa.1, .map (some m0aaab), .pointer (some ⟨p0aaac, 0, none⟩), .int .i64 o0aaa.2.1, .int .u64 o0aaa.2.2.1, .int .i64 o0aaa.2.2.2] :: Mp E64 m0aaab q0aaab :: Cl p0aaac 74 [.int .i64 o0aaac.1, .map (some m0aaacb), .slice A0aaacc q0aaacc.length c0aaacc, .bool o0aaac.2.1, .int .i64 o0aaac.2.2.1, .int .i64 o0aaac.2.2.2.1, .int .u64 o0aaac.2.2.2.2.1, .int .i64 o0aaac.2.2.2.2.2.1, .int .i64 o0aaac.2.2.2.2.2.2] :: Mp (Elt.slice E8) m0aaacb q0aaacb :: Bf (Elt.pair E64 (Elt.slice E8)) 147 A0aaacc c0aaacc q0aaacc :: Mp E64 m0aah q0aah :: Mp E64 m0aak q0aak :: Bf (Elt.pair (Elt.pair E64 (Elt.pair (Elt.slice E8) (Elt.slice E8))) EBool) 91 A0b c0b q0b :: hs) (fun s2 => lease_Grant.k2 r1 q0b a1 a2 a3 o0a o0aa o0aaa q0aaab o0aaac q0aaacb q0aaacc q0aah q0aak s2 = some r) (fun s2 x3 hk2 => ?_) (fun J2 => ?_)
   ·unfold lease_Grant.k2 at hk2
    refine T.cond rfl (fun hb2 => ?_) (fun hb2 => ?_)
    ·replace hk2 := inv_posB hb2 hk2
     refine T.seq ?_
     refine T.region ?_
     refine T.move .list rfl (wants0 rfl) rfl rfl ?_
     refine T.assign .list rfl (wants0 rfl) rfl rfl ?_
     refine T.assign .list rfl (wants0 rfl) rfl rfl ?_
     refine T.nil ?_
     refine T.then_normal ?_
     refine T.ret ?_
     refine T.then_ret ?_
     obtain rfl := inv_some hk2
     refine T.pick [0, 1, 2, 3, 4, 5, 6, 7, 8, 9, 10] 11 rfl rfl (Nat.le_add_left _ _) rfl ?_
     refine T.ret2 rfl rfl rfl (fun w hS => ⟨(A0b, c0b), rfl, hS⟩)
    ·replace hk2 := inv_negB hb2 hk2
     refine T.skip ?_
     refine T.then_normal ?_
     refine T.seq ?_
     refine T.region ?_
     refine T.move .list rfl (wants0 rfl) rfl rfl ?_
     obtain ⟨r2, hg2, hk2⟩ := inv_bind hk2
     refine T.call .list (wants0 rfl) rfl (run_callF (vs := []) rfl Try.func27 rfl (by decide) rfl) (fun w hS => lease_key.c hS  hg2) (fun x4 => ?_)
     refine T.move .list rfl (wants0 rfl) rfl rfl ?_
     refine T.move .list rfl (wants0 rfl) rfl rfl ?_
     refine T.move .list rfl (wants0 rfl) rfl rfl ?_
     refine T.build .list (vals := [(0, .int .i64 a1), (1, .int .i64 a2), (2, .int .i64 a3)]) (cells := #[.int .i64 a1, .int .i64 a2, .int .i64 a3]) rfl (wants0 rfl) rfl rfl (run_buildStruct (sizes := [1, 1, 1]) (by kernel_rfl) (by kernel_rfl)) ?_
     obtain ⟨r3, hg3, hk2⟩ := inv_bind hk2
     refine T.call .list (wants0 rfl) rfl (run_callF (vs := [_]) rfl Try.func28 rfl (by decide) rfl) (fun w hS => lease_bytes.c hS (a0 := (a1, a2, a3))  hg3) (fun x5 => ?_)
     refine T.freeze 1 rfl rfl rfl ?_
     refine T.freeze 0 rfl rfl rfl ?_
     refine T.pick [2, 3, 4, 5, 6, 7, 8, 9, 10, 11, 12, 0, 1] 13 rfl rfl (Nat.le_add_left _ _) (hs' := Cl p0 88 [.pointer (some ⟨p0a, 0, none⟩), .slice A0b q0b.length c0b] :: Cl p0a 80 [.pointer (some ⟨p0aa, 0, none⟩), .int .i64 o0a.1, .int .i64 o0a.2.1, .int .i64 o0a.2.2.1, .int .i64 o0a.2.2.2.1, .int .i64 o0a.2.2.2.2.1, .int .i64 o0a.2.2.2.2.2.1, .int .i64 o0a.2.2.2.2.2.2.1, .int .i64 o0a.2.2.2.2.2.2.2.1, .int .i64 o0a.2.2.2.2.2.2.2.2.1, .int .i64 o0a.2.2.2.2.2.2.2.2.2.1, .int .i64 o0a.2.2.2.2.2.2.2.2.2.2.1, .int .i64 o0a.2.2.2.2.2.2.2.2.2.2.2.1, .int .i64 o0a.2.2.2.2.2.2.2.2.2.2.2.2.1, .int .i64 o0a.2.2.2.2.2.2.2.2.2.2.2.2.2.1, .int .i64 o0a.2.2.2.2.2.2.2.2.2.2.2.2.2.2.1, .int .i64 o0a.2.2.2.2.2.2.2.2.2.2.2.2.2.2.2.1, .int .i64 o0a.2.2.2.2.2.2.2.2.2.2.2.2.2.2.2.2] :: Cl p0aa 103 [.pointer (some ⟨p0aaa, 0, none⟩), .nilIface, .int .i64 o0aa.1, .int .i64 o0aa.2.1, .nilIface, .int .i64 o0aa.2.2.1, .int .i64 o0aa.2.2.2, .map (some m0aah), .slice none 0 0, .slice none 0 0, .map (some m0aak)] :: Cl p0aaa 124 [.int .i64 o0aaa.1, .map (some m0aaab), .pointer (some ⟨p0aaac, 0, none⟩), .int .i64 o0aaa.2.1, .int .u64 o0aaa.2.2.1, .int .i64 o0aaa.2.2.2] :: Mp E64 m0aaab q0aaab :: Cl p0aaac 74 [.int .i64 o0aaac.1, .map (some m0aaacb), .slice A0aaacc q0aaacc.length c0aaacc, .bool o0aaac.2.1, .int .i64 o0aaac.2.2.1, .int .i64 o0aaac.2.2.2.1, .int .u64 o0aaac.2.2.2.2.1, .int .i64 o0aaac.2.2.2.2.2.1, .int .i64 o0aaac.2.2.2.2.2.2] :: Mp (Elt.slice E8) m0aaacb q0aaacb :: Bf (Elt.pair E64 (Elt.slice E8)) 147 A0aaacc c0aaacc q0aaacc :: Mp E64 m0aah q0aah :: Mp E64 m0aak q0aak :: Bf (Elt.pair (Elt.pair E64 (Elt.pair (Elt.slice E8) (Elt.slice E8))) EBool) 91 A0b c0b q0b :: Ro E8 x5.1 x5.2 r3 :: Ro E8 x4.1 x4.2 r2 :: hs) rfl ?_
     obtain ⟨r4, hg4, hk2⟩ := inv_bind hk2
     refine T.call .list (wants0 rfl) rfl (run_callF (vs := [_, _, _, _]) rfl Try.func26 rfl (by decide) rfl) (fun w hS => draft_Draft_Put.c hS (i2 := 12) (i3 := 11) (o0a := (o0a.1, o0a.2.1, o0a.2.2.1, o0a.2.2.2.1, o0a.2.2.2.2.1, o0a.2.2.2.2.2.1, o0a.2.2.2.2.2.2.1, o0a.2.2.2.2.2.2.2.1, o0a.2.2.2.2.2.2.2.2.1, o0a.2.2.2.2.2.2.2.2.2.1, o0a.2.2.2.2.2.2.2.2.2.2.1, o0a.2.2.2.2.2.2.2.2.2.2.2.1, o0a.2.2.2.2.2.2.2.2.2.2.2.2.1, o0a.2.2.2.2.2.2.2.2.2.2.2.2.2.1, o0a.2.2.2.2.2.2.2.2.2.2.2.2.2.2.1, o0a.2.2.2.2.2.2.2.2.2.2.2.2.2.2.2.1, o0a.2.2.2.2.2.2.2.2.2.2.2.2.2.2.2.2)) (o0aa := (o0aa.1, o0aa.2.1, o0aa.2.2.1, o0aa.2.2.2)) (o0aaa := (o0aaa.1, o0aaa.2.1, o0aaa.2.2.1, o0aaa.2.2.2)) (q0aaab := q0aaab) (o0aaac := (o0aaac.1, o0aaac.2.1, o0aaac.2.2.1, o0aaac.2.2.2.1, o0aaac.2.2.2.2.1, o0aaac.2.2.2.2.2.1, o0aaac.2.2.2.2.2.2)) (q0aaacb := q0aaacb) (q0aaacc := q0aaacc) (q0aah := q0aah) (q0aak := q0aak) (q0b := q0b) rfl rfl hg4) (fun x6 => ?_)
     refine T.assign .list rfl (wants0 rfl) rfl rfl ?_
     refine T.nil ?_
     refine T.then_normal ?_
     refine T.seq ?_
     refine T.region ?_
     refine T.move .list rfl (wants0 rfl) rfl rfl ?_
     refine T.bin .list rfl (wants0 rfl) rfl rfl rfl rfl ?_
     refine T.move .list rfl (wants0 rfl) rfl rfl ?_
     refine T.assign .list rfl (wants0 rfl) rfl rfl ?_
     refine T.assign .list rfl (wants0 rfl) rfl rfl ?_
     refine T.nil ?_
     refine T.then_normal ?_
     refine T.ret ?_
     obtain rfl := inv_some hk2
     refine T.pick [0, 1, 2, 3, 4, 5, 6, 7, 8, 9, 10] 13 rfl rfl (Nat.le_add_left _ _) rfl ?_
     refine T.ret2 rfl rfl rfl (fun w hS => ⟨(x6.1, x6.2), rfl, hS⟩)
   ·refine T.region ?_
    refine T.move .list rfl (wants0 rfl) rfl rfl ?_
    refine T.bin .list rfl (wants0 rfl) rfl rfl rfl rfl ?_
    refine T.move .list rfl (wants0 rfl) rfl rfl ?_
    refine T.bool (b := (decide (r1.2 = 0))) (fun hb3 => ?_) (fun hb3 => ?_)
    ·replace hk1 := inv_posB hb3 hk1
     refine T.loadN .list 0 rfl rfl (wants1 rfl rfl rfl (not_t hb3)) rfl rfl (vs := [.int .i64 r1.1.1, .int .i64 r1.1.2.1, .int .i64 r1.1.2.2]) rfl rfl ?_
     refine T.move .list rfl (wants1 rfl rfl rfl (not_t hb3)) rfl rfl ?_
     obtain ⟨r5, hg5, hk1⟩ := inv_bind hk1
     refine T.call .list (wants1 rfl rfl rfl (not_t hb3)) rfl (run_callF (vs := [_, _]) rfl Try.func14 rfl (by decide) rfl) (fun w hS => lease_May.c hS (a0 := (r1.1.1, r1.1.2.1, r1.1.2.2))  hg5) (fun x7 => ?_)
     refine T.not .list rfl (wants1 rfl rfl rfl (not_t hb3)) rfl rfl ?_
     refine T.pickF .list rfl (wants0 rfl) rfl rfl (not_t hb3) rfl ?_
     refine T.nil ?_
     refine T.then_normal ?_
     exact T.le (EnvLe.cons rfl (EnvLe.cons rfl (EnvLe.cons rfl (EnvLe.cons rfl (EnvLe.cons rfl (EnvLe.cons rfl EnvLe.nil)))))) (T.pick [1, 2, 3, 4, 5, 6, 7, 8, 9, 10, 11] 12 rfl rfl (Nat.le_add_left _ _) rfl (J2 (!r5) () hk1))
    ·replace hk1 := inv_negB hb3 hk1
     refine T.leave .list (wantsNot rfl rfl rfl (not_f hb3)) rfl ?_
     refine T.leave .list (wantsNot rfl rfl rfl (not_f hb3)) rfl ?_
     refine T.leave .list (wantsNot rfl rfl rfl (not_f hb3)) rfl ?_
     refine T.leave .list (wantsNot rfl rfl rfl (not_f hb3)) rfl ?_
     refine T.pickT .list rfl (wants0 rfl) rfl rfl (not_f hb3) rfl ?_
     refine T.nil ?_
     refine T.then_normal ?_
     exact T.le (EnvLe.cons rfl (EnvLe.cons rfl (EnvLe.cons rfl (EnvLe.cons rfl (EnvLe.cons rfl (EnvLe.cons rfl EnvLe.nil)))))) (T.pick [1, 2, 3, 4, 5, 6, 7, 8, 9, 10, 11] 12 rfl rfl (Nat.le_add_left _ _) rfl (J2 true () hk1))
 ·refine T.region ?_
  refine T.move .list rfl (wants0 rfl) rfl rfl ?_
  refine T.ptrEq (pt := 88) .list rfl (wants0 rfl) rfl rfl rfl (by kernel_rfl) (.inr rfl) rfl ?_
  refine T.move .list rfl (wants0 rfl) rfl rfl ?_
  refine T.move .list rfl (wants1 rfl rfl rfl rfl) rfl rfl ?_
  refine T.bin .list rfl (wants1 rfl rfl rfl rfl) rfl rfl rfl rfl ?_
  refine T.pickF .list rfl (wants0 rfl) rfl rfl rfl rfl ?_
  refine T.move .list rfl (wants0 rfl) rfl rfl ?_
  refine T.bool (b := (decide (a1 < 0))) (fun hb4 => ?_) (fun hb4 => ?_)
  ·replace hr := inv_posB hb4 hr
   refine T.leave .list (wantsNot rfl rfl rfl hb4) rfl ?_
   refine T.leave .list (wantsNot rfl rfl rfl hb4) rfl ?_
   refine T.pickT .list rfl (wants0 rfl) rfl rfl hb4 rfl ?_
   refine T.move .list rfl (wants0 rfl) rfl rfl ?_
   refine T.leave .list (wantsNot rfl rfl rfl rfl) rfl ?_
   refine T.leave .list (wantsNot rfl rfl rfl rfl) rfl ?_
   refine T.pickT .list rfl (wants0 rfl) rfl rfl rfl rfl ?_
   refine T.move .list rfl (wants0 rfl) rfl rfl ?_
   refine T.leave .list (wantsNot rfl rfl rfl rfl) rfl ?_
   refine T.leave .list (wantsNot rfl rfl rfl rfl) rfl ?_
   refine T.pickT .list rfl (wants0 rfl) rfl rfl rfl rfl ?_
   refine T.move .list rfl (wants0 rfl) rfl rfl ?_
   refine T.leave .list (wantsNot rfl rfl rfl rfl) rfl ?_
   refine T.leave .list (wantsNot rfl rfl rfl rfl) rfl ?_
   refine T.pickT .list rfl (wants0 rfl) rfl rfl rfl rfl ?_
   refine T.nil ?_
   refine T.then_normal ?_
   exact T.le (EnvLe.cons rfl (EnvLe.cons rfl (EnvLe.cons rfl (EnvLe.cons rfl (EnvLe.cons rfl EnvLe.nil))))) (T.pick [0, 1, 2, 3, 4, 5, 6, 7, 8, 9, 10] 11 rfl rfl (Nat.le_add_left _ _) rfl (J1 true () hr))
  ·replace hr := inv_negB hb4 hr
   refine T.move .list rfl (wants1 rfl rfl rfl hb4) rfl rfl ?_
   refine T.bin .list rfl (wants1 rfl rfl rfl hb4) rfl rfl rfl rfl ?_
   refine T.pickF .list rfl (wants0 rfl) rfl rfl hb4 rfl ?_
   refine T.move .list rfl (wants0 rfl) rfl rfl ?_
   refine T.bool (b := (decide ((4 : Int) ≤ a1))) (fun hb5 => ?_) (fun hb5 => ?_)
   ·replace hr := inv_posB hb5 hr
    refine T.leave .list (wantsNot rfl rfl rfl hb5) rfl ?_
    refine T.leave .list (wantsNot rfl rfl rfl hb5) rfl ?_
    refine T.pickT .list rfl (wants0 rfl) rfl rfl hb5 rfl ?_
    refine T.move .list rfl (wants0 rfl) rfl rfl ?_
    refine T.leave .list (wantsNot rfl rfl rfl rfl) rfl ?_
    refine T.leave .list (wantsNot rfl rfl rfl rfl) rfl ?_
    refine T.pickT .list rfl (wants0 rfl) rfl rfl rfl rfl ?_
    refine T.move .list rfl (wants0 rfl) rfl rfl ?_
    refine T.leave .list (wantsNot rfl rfl rfl rfl) rfl ?_
    refine T.leave .list (wantsNot rfl rfl rfl rfl) rfl ?_
    refine T.pickT .list rfl (wants0 rfl) rfl rfl rfl rfl ?_
    refine T.nil ?_
    refine T.then_normal ?_
    exact T.le (EnvLe.cons rfl (EnvLe.cons rfl (EnvLe.cons rfl (EnvLe.cons rfl (EnvLe.cons rfl EnvLe.nil))))) (T.pick [0, 1, 2, 3, 4, 5, 6, 7, 8, 9, 10] 11 rfl rfl (Nat.le_add_left _ _) rfl (J1 true () hr))
   ·replace hr := inv_negB hb5 hr
    refine T.move .list rfl (wants1 rfl rfl rfl hb5) rfl rfl ?_
    refine T.bin .list rfl (wants1 rfl rfl rfl hb5) rfl rfl rfl rfl ?_
    refine T.pickF .list rfl (wants0 rfl) rfl rfl hb5 rfl ?_
    refine T.move .list rfl (wants0 rfl) rfl rfl ?_
    refine T.bool (b := (decide (a2 < 1))) (fun hb6 => ?_) (fun hb6 => ?_)
    ·replace hr := inv_posB hb6 hr
     refine T.leave .list (wantsNot rfl rfl rfl hb6) rfl ?_
     refine T.leave .list (wantsNot rfl rfl rfl hb6) rfl ?_
     refine T.pickT .list rfl (wants0 rfl) rfl rfl hb6 rfl ?_
     refine T.move .list rfl (wants0 rfl) rfl rfl ?_
     refine T.leave .list (wantsNot rfl rfl rfl rfl) rfl ?_
     refine T.leave .list (wantsNot rfl rfl rfl rfl) rfl ?_
     refine T.pickT .list rfl (wants0 rfl) rfl rfl rfl rfl ?_
     refine T.nil ?_
     refine T.then_normal ?_
     exact T.le (EnvLe.cons rfl (EnvLe.cons rfl (EnvLe.cons rfl (EnvLe.cons rfl (EnvLe.cons rfl EnvLe.nil))))) (T.pick [0, 1, 2, 3, 4, 5, 6, 7, 8, 9, 10] 11 rfl rfl (Nat.le_add_left _ _) rfl (J1 true () hr))
    ·replace hr := inv_negB hb6 hr
     refine T.move .list rfl (wants1 rfl rfl rfl hb6) rfl rfl ?_
     refine T.bin .list rfl (wants1 rfl rfl rfl hb6) rfl rfl rfl rfl ?_
     refine T.pickF .list rfl (wants0 rfl) rfl rfl hb6 rfl ?_
     refine T.move .list rfl (wants0 rfl) rfl rfl ?_
     refine T.bool (b := (decide ((1048576 : Int) < a2))) (fun hb7 => ?_) (fun hb7 => ?_)
     ·replace hr := inv_posB hb7 hr
      refine T.leave .list (wantsNot rfl rfl rfl hb7) rfl ?_
      refine T.leave .list (wantsNot rfl rfl rfl hb7) rfl ?_
      refine T.pickT .list rfl (wants0 rfl) rfl rfl hb7 rfl ?_
      refine T.nil ?_
      refine T.then_normal ?_
      exact T.le (EnvLe.cons rfl (EnvLe.cons rfl (EnvLe.cons rfl (EnvLe.cons rfl (EnvLe.cons rfl EnvLe.nil))))) (T.pick [0, 1, 2, 3, 4, 5, 6, 7, 8, 9, 10] 11 rfl rfl (Nat.le_add_left _ _) rfl (J1 true () hr))
     ·replace hr := inv_negB hb7 hr
      refine T.move .list rfl (wants1 rfl rfl rfl hb7) rfl rfl ?_
      refine T.bin .list rfl (wants1 rfl rfl rfl hb7) rfl rfl rfl rfl ?_
      refine T.pickF .list rfl (wants0 rfl) rfl rfl hb7 rfl ?_
      refine T.nil ?_
      refine T.then_normal ?_
      exact T.le (EnvLe.cons rfl (EnvLe.cons rfl (EnvLe.cons rfl (EnvLe.cons rfl (EnvLe.cons rfl EnvLe.nil))))) (T.pick [0, 1, 2, 3, 4, 5, 6, 7, 8, 9, 10] 11 rfl rfl (Nat.le_add_left _ _) rfl (J1 (decide (a3 < 0)) () hr))

noncomputable def lease_End.k1 (r1 : (Int × Int × Int) × Int) (q0b : List ((Int × (List UInt8) × (List UInt8)) × Bool)) (o0a : Int × Int × Int × Int × Int × Int × Int × Int × Int × Int × Int × Int × Int × Int × Int × Int × Int) (o0aa : Int × Int × Int × Int) (o0aaa : Int × Int × Int × Int) (q0aaab : List (Int × Int)) (o0aaac : Int × Bool × Int × Int × Int × Int × Int) (q0aaacb : List (Int × (List UInt8))) (q0aaacc : List (Int × (List UInt8))) (q0aah : List (Int × Int)) (q0aak : List (Int × Int)) (s1 : Bool) : Option (Bool × Int × (List ((Int × (List UInt8) × (List UInt8)) × Bool))) :=
  (if s1 = true then some (false, r1.2, q0b) else (lease_key.impl ).bind fun r2 => (draft_Draft_Delete.impl ((o0a.1, o0a.2.1, o0a.2.2.1, o0a.2.2.2.1, o0a.2.2.2.2.1, o0a.2.2.2.2.2.1, o0a.2.2.2.2.2.2.1, o0a.2.2.2.2.2.2.2.1, o0a.2.2.2.2.2.2.2.2.1, o0a.2.2.2.2.2.2.2.2.2.1, o0a.2.2.2.2.2.2.2.2.2.2.1, o0a.2.2.2.2.2.2.2.2.2.2.2.1, o0a.2.2.2.2.2.2.2.2.2.2.2.2.1, o0a.2.2.2.2.2.2.2.2.2.2.2.2.2.1, o0a.2.2.2.2.2.2.2.2.2.2.2.2.2.2.1, o0a.2.2.2.2.2.2.2.2.2.2.2.2.2.2.2.1, o0a.2.2.2.2.2.2.2.2.2.2.2.2.2.2.2.2)) ((o0aa.1, o0aa.2.1, o0aa.2.2.1, o0aa.2.2.2)) ((o0aaa.1, o0aaa.2.1, o0aaa.2.2.1, o0aaa.2.2.2)) q0aaab ((o0aaac.1, o0aaac.2.1, o0aaac.2.2.1, o0aaac.2.2.2.1, o0aaac.2.2.2.2.1, o0aaac.2.2.2.2.2.1, o0aaac.2.2.2.2.2.2)) q0aaacb q0aaacc q0aah q0aak q0b 5 r2).bind fun r3 => some ((decide (r3.1 = 0)), r3.1, r3.2))
noncomputable def lease_End.impl (o0a : Int × Int × Int × Int × Int × Int × Int × Int × Int × Int × Int × Int × Int × Int × Int × Int × Int) (o0aa : Int × Int × Int × Int) (o0aaa : Int × Int × Int × Int) (q0aaab : List (Int × Int)) (o0aaac : Int × Bool × Int × Int × Int × Int × Int) (q0aaacb : List (Int × (List UInt8))) (q0aaacc : List (Int × (List UInt8))) (q0aah : List (Int × Int)) (q0aak : List (Int × Int)) (q0b : List ((Int × (List UInt8) × (List UInt8)) × Bool)) (a1 : Int) : Option (Bool × Int × (List ((Int × (List UInt8) × (List UInt8)) × Bool))) :=
  (lease_Now.impl ((o0a.1, o0a.2.1, o0a.2.2.1, o0a.2.2.2.1, o0a.2.2.2.2.1, o0a.2.2.2.2.2.1, o0a.2.2.2.2.2.2.1, o0a.2.2.2.2.2.2.2.1, o0a.2.2.2.2.2.2.2.2.1, o0a.2.2.2.2.2.2.2.2.2.1, o0a.2.2.2.2.2.2.2.2.2.2.1, o0a.2.2.2.2.2.2.2.2.2.2.2.1, o0a.2.2.2.2.2.2.2.2.2.2.2.2.1, o0a.2.2.2.2.2.2.2.2.2.2.2.2.2.1, o0a.2.2.2.2.2.2.2.2.2.2.2.2.2.2.1, o0a.2.2.2.2.2.2.2.2.2.2.2.2.2.2.2.1, o0a.2.2.2.2.2.2.2.2.2.2.2.2.2.2.2.2)) ((o0aa.1, o0aa.2.1, o0aa.2.2.1, o0aa.2.2.2)) ((o0aaa.1, o0aaa.2.1, o0aaa.2.2.1, o0aaa.2.2.2)) q0aaab ((o0aaac.1, o0aaac.2.1, o0aaac.2.2.1, o0aaac.2.2.2.1, o0aaac.2.2.2.2.1, o0aaac.2.2.2.2.2.1, o0aaac.2.2.2.2.2.2)) q0aaacb q0aaacc q0aah q0aak q0b).bind fun r1 => (if ((decide (r1.2 = 0))) = true then (if ((decide (r1.1.1 < 0))) = true then lease_End.k1 r1 q0b o0a o0aa o0aaa q0aaab o0aaac q0aaacb q0aaacc q0aah q0aak true else lease_End.k1 r1 q0b o0a o0aa o0aaa q0aaab o0aaac q0aaacb q0aaacc q0aah q0aak (!(decide (r1.1.2.2 = a1)))) else lease_End.k1 r1 q0b o0a o0aa o0aaa q0aaab o0aaac q0aaacb q0aaacc q0aah q0aak true)
set_option maxRecDepth 100000 in
set_option maxHeartbeats 4000000 in
theorem lease_End.c {B : World} {hs : List MP} {w : World} {p0 : Nat} {p0a : Nat} {o0a : Int × Int × Int × Int × Int × Int × Int × Int × Int × Int × Int × Int × Int × Int × Int × Int × Int} {p0aa : Nat} {o0aa : Int × Int × Int × Int} {p0aaa : Nat} {o0aaa : Int × Int × Int × Int} {m0aaab : Nat} {q0aaab : List (Int × Int)} {p0aaac : Nat} {o0aaac : Int × Bool × Int × Int × Int × Int × Int} {m0aaacb : Nat} {q0aaacb : List (Int × (List UInt8))} {c0aaacc : Nat} {A0aaacc : Option Addr} {q0aaacc : List (Int × (List UInt8))} {m0aah : Nat} {q0aah : List (Int × Int)} {m0aak : Nat} {q0aak : List (Int × Int)} {c0b : Nat} {A0b : Option Addr} {q0b : List ((Int × (List UInt8) × (List UInt8)) × Bool)} {a1 : Int} (hS : St B (Cl p0 88 [.pointer (some ⟨p0a, 0, none⟩), .slice A0b q0b.length c0b] :: Cl p0a 80 [.pointer (some ⟨p0aa, 0, none⟩), .int .i64 o0a.1, .int .i64 o0a.2.1, .int .i64 o0a.2.2.1, .int .i64 o0a.2.2.2.1, .int .i64 o0a.2.2.2.2.1, .int .i64 o0a.2.2.2.2.2.1, .int .i64 o0a.2.2.2.2.2.2.1, .int .i64 o0a.2.2.2.2.2.2.2.1, .int .i64 o0a.2.2.2.2.2.2.2.2.1, .int .i64 o0a.2.2.2.2.2.2.2.2.2.1, .int .i64 o0a.2.2.2.2.2.2.2.2.2.2.1, .int .i64 o0a.2.2.2.2.2.2.2.2.2.2.2.1, .int .i64 o0a.2.2.2.2.2.2.2.2.2.2.2.2.1, .int .i64 o0a.2.2.2.2.2.2.2.2.2.2.2.2.2.1, .int .i64 o0a.2.2.2.2.2.2.2.2.2.2.2.2.2.2.1, .int .i64 o0a.2.2.2.2.2.2.2.2.2.2.2.2.2.2.2.1, .int .i64 o0a.2.2.2.2.2.2.2.2.2.2.2.2.2.2.2.2] :: Cl p0aa 103 [.pointer (some ⟨p0aaa, 0, none⟩), .nilIface, .int .i64 o0aa.1, .int .i64 o0aa.2.1, .nilIface, .int .i64 o0aa.2.2.1, .int .i64 o0aa.2.2.2, .map (some m0aah), .slice none 0 0, .slice none 0 0, .map (some m0aak)] :: Cl p0aaa 124 [.int .i64 o0aaa.1, .map (some m0aaab), .pointer (some ⟨p0aaac, 0, none⟩), .int .i64 o0aaa.2.1, .int .u64 o0aaa.2.2.1, .int .i64 o0aaa.2.2.2] :: Mp E64 m0aaab q0aaab :: Cl p0aaac 74 [.int .i64 o0aaac.1, .map (some m0aaacb), .slice A0aaacc q0aaacc.length c0aaacc, .bool o0aaac.2.1, .int .i64 o0aaac.2.2.1, .int .i64 o0aaac.2.2.2.1, .int .u64 o0aaac.2.2.2.2.1, .int .i64 o0aaac.2.2.2.2.2.1, .int .i64 o0aaac.2.2.2.2.2.2] :: Mp (Elt.slice E8) m0aaacb q0aaacb :: Bf (Elt.pair E64 (Elt.slice E8)) 147 A0aaacc c0aaacc q0aaacc :: Mp E64 m0aah q0aah :: Mp E64 m0aak q0aak :: Bf (Elt.pair (Elt.pair E64 (Elt.pair (Elt.slice E8) (Elt.slice E8))) EBool) 91 A0b c0b q0b :: hs) w) {r : Bool × Int × (List ((Int × (List UInt8) × (List UInt8)) × Bool))} (hr : lease_End.impl o0a o0aa o0aaa q0aaab o0aaac q0aaacb q0aaacc q0aah q0aak q0b a1 = some r) :
    Calls Try.prog 11 #[.pointer (some ⟨p0, 0, none⟩), .int .i64 a1] w fun e w' => ∃ x : (Option Addr × Nat), e = .returned (.tuple #[.bool r.1, .int .i64 r.2.1]) ∧ St B (Cl p0 88 [.pointer (some ⟨p0a, 0, none⟩), .slice x.1 r.2.2.length x.2] :: Cl p0a 80 [.pointer (some ⟨p0aa, 0, none⟩), .int .i64 o0a.1, .int .i64 o0a.2.1, .int .i64 o0a.2.2.1, .int .i64 o0a.2.2.2.1, .int .i64 o0a.2.2.2.2.1, .int .i64 o0a.2.2.2.2.2.1, .int .i64 o0a.2.2.2.2.2.2.1, .int .i64 o0a.2.2.2.2.2.2.2.1, .int .i64 o0a.2.2.2.2.2.2.2.2.1, .int .i64 o0a.2.2.2.2.2.2.2.2.2.1, .int .i64 o0a.2.2.2.2.2.2.2.2.2.2.1, .int .i64 o0a.2.2.2.2.2.2.2.2.2.2.2.1, .int .i64 o0a.2.2.2.2.2.2.2.2.2.2.2.2.1, .int .i64 o0a.2.2.2.2.2.2.2.2.2.2.2.2.2.1, .int .i64 o0a.2.2.2.2.2.2.2.2.2.2.2.2.2.2.1, .int .i64 o0a.2.2.2.2.2.2.2.2.2.2.2.2.2.2.2.1, .int .i64 o0a.2.2.2.2.2.2.2.2.2.2.2.2.2.2.2.2] :: Cl p0aa 103 [.pointer (some ⟨p0aaa, 0, none⟩), .nilIface, .int .i64 o0aa.1, .int .i64 o0aa.2.1, .nilIface, .int .i64 o0aa.2.2.1, .int .i64 o0aa.2.2.2, .map (some m0aah), .slice none 0 0, .slice none 0 0, .map (some m0aak)] :: Cl p0aaa 124 [.int .i64 o0aaa.1, .map (some m0aaab), .pointer (some ⟨p0aaac, 0, none⟩), .int .i64 o0aaa.2.1, .int .u64 o0aaa.2.2.1, .int .i64 o0aaa.2.2.2] :: Mp E64 m0aaab q0aaab :: Cl p0aaac 74 [.int .i64 o0aaac.1, .map (some m0aaacb), .slice A0aaacc q0aaacc.length c0aaacc, .bool o0aaac.2.1, .int .i64 o0aaac.2.2.1, .int .i64 o0aaac.2.2.2.1, .int .u64 o0aaac.2.2.2.2.1, .int .i64 o0aaac.2.2.2.2.2.1, .int .i64 o0aaac.2.2.2.2.2.2] :: Mp (Elt.slice E8) m0aaacb q0aaacb :: Bf (Elt.pair E64 (Elt.slice E8)) 147 A0aaacc c0aaacc q0aaacc :: Mp E64 m0aah q0aah :: Mp E64 m0aak q0aak :: Bf (Elt.pair (Elt.pair E64 (Elt.pair (Elt.slice E8) (Elt.slice E8))) EBool) 91 x.1 x.2 r.2.2 :: hs) w' := by
 unfold lease_End.impl at hr
 refine calls_T Try.func11 rfl rfl rfl hS ?_
 refine T.seq ?_
 refine T.region ?_
 refine T.assign .list rfl (wants0 rfl) rfl rfl ?_
 refine T.assign .list rfl (wants0 rfl) rfl rfl ?_
 refine T.nil ?_
 refine T.then_normal ?_
 refine T.seq ?_
 refine T.region ?_
 refine T.move .list rfl (wants0 rfl) rfl rfl ?_
 refine T.pick [0, 1, 2, 3, 4, 5, 6, 7, 8, 9, 10] 11 rfl rfl (Nat.le_add_left _ _) (hs' := Cl p0 88 [.pointer (some ⟨p0a, 0, none⟩), .slice A0b q0b.length c0b] :: Cl p0a 80 [.pointer (some ⟨p0aa, 0, none⟩), .int .i64 o0a.1, .int .i64 o0a.2.1, .int .i64 o0a.2.2.1, .int .i64 o0a.2.2.2.1, .int .i64 o0a.2.2.2.2.1, .int .i64 o0a.2.2.2.2.2.1, .int .i64 o0a.2.2.2.2.2.2.1, .int .i64 o0a.2.2.2.2.2.2.2.1, .int .i64 o0a.2.2.2.2.2.2.2.2.1, .int .i64 o0a.2.2.2.2.2.2.2.2.2.1, .int .i64 o0a.2.2.2.2.2.2.2.2.2.2.1, .int .i64 o0a.2.2.2.2.2.2.2.2.2.2.2.1, .int .i64 o0a.2.2.2.2.2.2.2.2.2.2.2.2.1, .int .i64 o0a.2.2.2.2.2.2.2.2.2.2.2.2.2.1, .int .i64 o0a.2.2.2.2.2.2.2.2.2.2.2.2.2.2.1, .int .i64 o0a.2.2.2.2.2.2.2.2.2.2.2.2.2.2.2.1, .int .i64 o0a.2.2.2.2.2.2.2.2.2.2.2.2.2.2.2.2] :: Cl p0aa 103 [.pointer (some ⟨p0aaa, 0, none⟩), .nilIface, .int .i64 o0aa.1, .int .i64 o0aa.2.1, .nilIface, .int .i64 o0aa.2.2.1, .int .i64 o0aa.2.2.2, .map (some m0aah), .slice none 0 0, .slice none 0 0, .map (some m0aak)] :: Cl p0aaa 124 [.int .i64 o0aaa.1, .map (some m0aaab), .pointer (some ⟨p0aaac, 0, none⟩), .int .i64 o0aaa.2.1, .int .u64 o0aaa.2.2.1, .int .i64 o0aaa.2.2.2] :: Mp E64 m0aaab q0aaab :: Cl p0aaac 74 [.int .i64 o0aaac.1, .map (some m0aaacb), .slice A0aaacc q0aaacc.length c0aaacc, .bool o0aaac.2.1, .int .i64 o0aaac.2.2.1, .int .i64 o0aaac.2.2.2.1, .int .u64 o0aaac.2.2.2.2.1, .int .i64 o0aaac.2.2.2.2.2.1, .int .i64 o0aaac.2.2.2.2.2.2] :: Mp (Elt.slice E8) m0aaacb q0aaacb :: Bf (Elt.pair E64 (Elt.slice E8)) 147 A0aaacc c0aaacc q0aaacc :: Mp E64 m0aah q0aah :: Mp E64 m0aak q0aak :: Bf (Elt.pair (Elt.pair E64 (Elt.pair (Elt.slice E8) (Elt.slice E8))) EBool) 91 A0b c0b q0b :: hs) rfl ?_
 obtain ⟨r1, hg1, hr⟩ := inv_bind hr
 refine T.call .list (wants0 rfl) rfl (run_callF (vs := [_]) rfl Try.func13 rfl (by decide) rfl) (fun w hS => lease_Now.c hS (o0a := (o0a.1, o0a.2.1, o0a.2.2.1, o0a.2.2.2.1, o0a.2.2.2.2.1, o0a.2.2.2.2.2.1, o0a.2.2.2.2.2.2.1, o0a.2.2.2.2.2.2.2.1, o0a.2.2.2.2.2.2.2.2.1, o0a.2.2.2.2.2.2.2.2.2.1, o0a.2.2.2.2.2.2.2.2.2.2.1, o0a.2.2.2.2.2.2.2.2.2.2.2.1, o0a.2.2.2.2.2.2.2.2.2.2.2.2.1, o0a.2.2.2.2.2.2.2.2.2.2.2.2.2.1, o0a.2.2.2.2.2.2.2.2.2.2.2.2.2.2.1, o0a.2.2.2.2.2.2.2.2.2.2.2.2.2.2.2.1, o0a.2.2.2.2.2.2.2.2.2.2.2.2.2.2.2.2)) (o0aa := (o0aa.1, o0aa.2.1, o0aa.2.2.1, o0aa.2.2.2)) (o0aaa := (o0aaa.1, o0aaa.2.1, o0aaa.2.2.1, o0aaa.2.2.2)) (q0aaab := q0aaab) (o0aaac := (o0aaac.1, o0aaac.2.1, o0aaac.2.2.1, o0aaac.2.2.2.1, o0aaac.2.2.2.2.1, o0aaac.2.2.2.2.2.1, o0aaac.2.2.2.2.2.2)) (q0aaacb := q0aaacb) (q0aaacc := q0aaacc) (q0aah := q0aah) (q0aak := q0aak) (q0b := q0b)  hg1) (fun x1 => ?_)
 refine T.move .list rfl (wants0 rfl) rfl rfl ?_
 refine T.extract .list rfl (wants0 rfl) rfl rfl rfl ?_
 refine T.extract .list rfl (wants0 rfl) rfl rfl rfl ?_
 refine T.allocS .list rfl (wants0 rfl) rfl (cs := [.int .i64 0, .int .i64 0, .int .i64 0]) rfl (fun b1 => ?_)
 refine T.store .list 0 rfl rfl (wants0 rfl) rfl rfl rfl rfl (Nat.le_of_ble_eq_true rfl) rfl (cs' := [.int .i64 r1.1.1, .int .i64 r1.1.2.1, .int .i64 r1.1.2.2]) rfl rfl ?_
 refine T.assign .list rfl (wants0 rfl) rfl rfl ?_
 refine T.nil ?_
 refine T.then_normal ?_
 refine T.seq ?_
 refine T.seqJ (fun (s1 : Bool) (x2 : Unit) => [(0, .pointer (some ⟨p0, 0, none⟩)), (7, .int .i64 r1.2), (25, .bool s1)]) (fun s1 x2 => Cl p0 88 [.pointer (some ⟨p0a, 0, none⟩), .slice A0b q0b.length c0b] :: Cl p0a 80 [.pointer (some ⟨p0aa, 0, none⟩), .int .i64 o0a.1, .int .i64 o0a.2.1, .int .i64 o0a.2.2.1, .int .i64 o0a.2.2.2.1, .int .i64 o0a.2.2.2.2.1, .int .i64 o0a.2.2.2.2.2.1, .int .i64 o0a.2.2.2.2.2.2.1, .int .i64 o0a.2.2.2.2.2.2.2.1, .int .i64 o0a.2.2.2.2.2.2.2.2.1, .int .i64 o0a.2.2.2.2.2.2.2.2.2.1, .int .i64 o0a.2.2.2.2.2.2.2.2.2.2.1, .int .i64 o0a.2.2.2.2.2.2.2.2.2.2.2.1, .int .i64 o0a.2.2.2.2.2.2.2.2.2.2.2.2.1, .int .i64 o0a.2.2.2.2.2.2.2.2.2.2.2.2.2.1, .int .i64 o0a.2.2.2.2.2.2.2.2.2.2.2.2.2.2.1, .int .i64 o0a.2.2.2.2.2.2.2.2.2.2.2.2.2.2.2.1, .int .i64 o0a.2.2.2.2.2.2.2.2.2.2.2.2.2.2.2.2] :: Cl p0aa 103 [.pointer (some ⟨p0aaa, 0, none⟩), .nilIface, .int .i64 o0aa.1, .int .i64 o0aa.2.1, .nilIface, .int .i64 o0aa.2.2.1, .int .i64 o0aa.2.2.2, .map (some m0aah), .slice none 0 0, .slice none 0 0, .map (some m0aak)] :: Cl p0aaa 124 [.int .i64 o0aaa.1, .map (some m0aaab), .pointer (some ⟨p0aaac, 0, none⟩), .int .i64 o0aaa.2.1, .int .u64 o0aaa.2.2.1, .int .i64 o0aaa.2.2.2] :: Mp E64 m0aaab q0aaab :: Cl p0aaac 74 [.int .i64 o0aaac.1, .map (some m0aaacb), .slice A0aaacc q0aaacc.length c0aaacc, .bool o0aaac.2.1, .int .i64 o0aaac.2.2.1, .int .i64 o0aaac.2.2.2.1, .int .u64 o0aaac.2.2.2.2.1, .int .i64 o0aaac.2.2.2.2.2.1, .int .i64 o0aaac.2.2.2.2.2.2] :: Mp (Elt.slice E8) m0aaacb q0aaacb :: Bf (Elt.pair E64 (Elt.slice E8)) 147 A0aaacc c0aaacc q0aaacc :: Mp E64 m0aah q0aah :: Mp E64 m0aak q0aak :: Bf (Elt.pair (Elt.pair E64 (Elt.pair (Elt.slice E8) (Elt.slice E8))) EBool) 91 A0b c0b q0b :: hs) (fun s1 => lease_End.k1 r1 q0b o0a o0aa o0aaa q0aaab o0aaac q0aaacb q0aaacc q0aah q0aak s1 = some r) (fun s1 x2 hk1 => ?_) (fun J1 => ?_)
 ·unfold lease_End.k1 at hk1
  refine T.cond rfl (fun hb1 => ?_) (fun hb1 => ?_)
  ·replace hk1 := inv_posB hb1 hk1
   refine T.seq ?_
   refine T.region ?_
   refine T.move .list rfl (wants0 rfl) rfl rfl ?_
   refine T.assign .list rfl (wants0 rfl) rfl rfl ?_
   refine T.assign .list rfl (wants0 rfl) rfl rfl ?_
   refine T.nil ?_
   refine T.then_normal ?_
   refine T.ret ?_
   refine T.then_ret ?_
   obtain rfl := inv_some hk1
   refine T.pick [0, 1, 2, 3, 4, 5, 6, 7, 8, 9, 10] 11 rfl rfl (Nat.le_add_left _ _) rfl ?_
   refine T.ret2 rfl rfl rfl (fun w hS => ⟨(A0b, c0b), rfl, hS⟩)
  ·replace hk1 := inv_negB hb1 hk1
   refine T.skip ?_
   refine T.then_normal ?_
   refine T.seq ?_
   refine T.region ?_
   refine T.move .list rfl (wants0 rfl) rfl rfl ?_
   obtain ⟨r2, hg2, hk1⟩ := inv_bind hk1
   refine T.call .list (wants0 rfl) rfl (run_callF (vs := []) rfl Try.func27 rfl (by decide) rfl) (fun w hS => lease_key.c hS  hg2) (fun x3 => ?_)
   refine T.freeze 0 rfl rfl rfl ?_
   refine T.pick [1, 2, 3, 4, 5, 6, 7, 8, 9, 10, 11, 0] 12 rfl rfl (Nat.le_add_left _ _) (hs' := Cl p0 88 [.pointer (some ⟨p0a, 0, none⟩), .slice A0b q0b.length c0b] :: Cl p0a 80 [.pointer (some ⟨p0aa, 0, none⟩), .int .i64 o0a.1, .int .i64 o0a.2.1, .int .i64 o0a.2.2.1, .int .i64 o0a.2.2.2.1, .int .i64 o0a.2.2.2.2.1, .int .i64 o0a.2.2.2.2.2.1, .int .i64 o0a.2.2.2.2.2.2.1, .int .i64 o0a.2.2.2.2.2.2.2.1, .int .i64 o0a.2.2.2.2.2.2.2.2.1, .int .i64 o0a.2.2.2.2.2.2.2.2.2.1, .int .i64 o0a.2.2.2.2.2.2.2.2.2.2.1, .int .i64 o0a.2.2.2.2.2.2.2.2.2.2.2.1, .int .i64 o0a.2.2.2.2.2.2.2.2.2.2.2.2.1, .int .i64 o0a.2.2.2.2.2.2.2.2.2.2.2.2.2.1, .int .i64 o0a.2.2.2.2.2.2.2.2.2.2.2.2.2.2.1, .int .i64 o0a.2.2.2.2.2.2.2.2.2.2.2.2.2.2.2.1, .int .i64 o0a.2.2.2.2.2.2.2.2.2.2.2.2.2.2.2.2] :: Cl p0aa 103 [.pointer (some ⟨p0aaa, 0, none⟩), .nilIface, .int .i64 o0aa.1, .int .i64 o0aa.2.1, .nilIface, .int .i64 o0aa.2.2.1, .int .i64 o0aa.2.2.2, .map (some m0aah), .slice none 0 0, .slice none 0 0, .map (some m0aak)] :: Cl p0aaa 124 [.int .i64 o0aaa.1, .map (some m0aaab), .pointer (some ⟨p0aaac, 0, none⟩), .int .i64 o0aaa.2.1, .int .u64 o0aaa.2.2.1, .int .i64 o0aaa.2.2.2] :: Mp E64 m0aaab q0aaab :: Cl p0aaac 74 [.int .i64 o0aaac.1, .map (some m0aaacb), .slice A0aaacc q0aaacc.length c0aaacc, .bool o0aaac.2.1, .int .i64 o0aaac.2.2.1, .int .i64 o0aaac.2.2.2.1, .int .u64 o0aaac.2.2.2.2.1, .int .i64 o0aaac.2.2.2.2.2.1, .int .i64 o0aaac.2.2.2.2.2.2] :: Mp (Elt.slice E8) m0aaacb q0aaacb :: Bf (Elt.pair E64 (Elt.slice E8)) 147 A0aaacc c0aaacc q0aaacc :: Mp E64 m0aah q0aah :: Mp E64 m0aak q0aak :: Bf (Elt.pair (Elt.pair E64 (Elt.pair (Elt.slice E8) (Elt.slice E8))) EBool) 91 A0b c0b q0b :: Ro E8 x3.1 x3.2 r2 :: hs) rfl ?_
   obtain ⟨r3, hg3, hk1⟩ := inv_bind hk1
   refine T.call .list (wants0 rfl) rfl (run_callF (vs := [_, _, _]) rfl Try.func29 rfl (by decide) rfl) (fun w hS => draft_Draft_Delete.c hS (i2 := 11) (o0a := (o0a.1, o0a.2.1, o0a.2.2.1, o0a.2.2.2.1, o0a.2.2.2.2.1, o0a.2.2.2.2.2.1, o0a.2.2.2.2.2.2.1, o0a.2.2.2.2.2.2.2.1, o0a.2.2.2.2.2.2.2.2.1, o0a.2.2.2.2.2.2.2.2.2.1, o0a.2.2.2.2.2.2.2.2.2.2.1, o0a.2.2.2.2.2.2.2.2.2.2.2.1, o0a.2.2.2.2.2.2.2.2.2.2.2.2.1, o0a.2.2.2.2.2.2.2.2.2.2.2.2.2.1, o0a.2.2.2.2.2.2.2.2.2.2.2.2.2.2.1, o0a.2.2.2.2.2.2.2.2.2.2.2.2.2.2.2.1, o0a.2.2.2.2.2.2.2.2.2.2.2.2.2.2.2.2)) (o0aa := (o0aa.1, o0aa.2.1, o0aa.2.2.1, o0aa.2.2.2)) (o0aaa := (o0aaa.1, o0aaa.2.1, o0aaa.2.2.1, o0aaa.2.2.2)) (q0aaab := q0aaab) (o0aaac := (o0aaac.1, o0aaac.2.1, o0aaac.2.2.1, o0aaac.2.2.2.1, o0aaac.2.2.2.2.1, o0aaac.2.2.2.2.2.1, o0aaac.2.2.2.2.2.2)) (q0aaacb := q0aaacb) (q0aaacc := q0aaacc) (q0aah := q0aah) (q0aak := q0aak) (q0b := q0b) rfl hg3) (fun x4 => ?_)
   refine T.assign .list rfl (wants0 rfl) rfl rfl ?_
   refine T.nil ?_
   refine T.then_normal ?_
   refine T.seq ?_
   refine T.region ?_
   refine T.move .list rfl (wants0 rfl) rfl rfl ?_
   refine T.bin .list rfl (wants0 rfl) rfl rfl rfl rfl ?_
   refine T.move .list rfl (wants0 rfl) rfl rfl ?_
   refine T.assign .list rfl (wants0 rfl) rfl rfl ?_
   refine T.assign .list rfl (wants0 rfl) rfl rfl ?_
   refine T.nil ?_
   refine T.then_normal ?_
   refine T.ret ?_
   obtain rfl := inv_some hk1
   refine T.pick [0, 1, 2, 3, 4, 5, 6, 7, 8, 9, 10] 12 rfl rfl (Nat.le_add_left _ _) rfl ?_
   refine T.ret2 rfl rfl rfl (fun w hS => ⟨(x4.1, x4.2), rfl, hS⟩)
 ·refine T.region ?_
  refine T.move .list rfl (wants0 rfl) rfl rfl ?_
  refine T.bin .list rfl (wants0 rfl) rfl rfl rfl rfl ?_
  refine T.move .list rfl (wants0 rfl) rfl rfl ?_
  refine T.bool (b := (decide (r1.2 = 0))) (fun hb2 => ?_) (fun hb2 => ?_)
  ·replace hr := inv_posB hb2 hr
   refine T.field .list rfl (wants1 rfl rfl rfl (not_t hb2)) rfl rfl ?_
   refine T.load .list 0 rfl rfl (wants1 rfl rfl rfl (not_t hb2)) rfl rfl rfl ?_
   refine T.bin .list rfl (wants1 rfl rfl rfl (not_t hb2)) rfl rfl rfl rfl ?_
   refine T.pickF .list rfl (wants0 rfl) rfl rfl (not_t hb2) rfl ?_
   refine T.move .list rfl (wants0 rfl) rfl rfl ?_
   refine T.bool (b := (decide (r1.1.1 < 0))) (fun hb3 => ?_) (fun hb3 => ?_)
   ·replace hr := inv_posB hb3 hr
    refine T.leave .list (wantsNot rfl rfl rfl hb3) rfl ?_
    refine T.leave .list (wantsNot rfl rfl rfl hb3) rfl ?_
    refine T.leave .list (wantsNot rfl rfl rfl hb3) rfl ?_
    refine T.leave .list (wantsNot rfl rfl rfl hb3) rfl ?_
    refine T.pickT .list rfl (wants0 rfl) rfl rfl hb3 rfl ?_
    refine T.nil ?_
    refine T.then_normal ?_
    exact T.le (EnvLe.cons rfl (EnvLe.cons rfl (EnvLe.cons rfl EnvLe.nil))) (T.pick [1, 2, 3, 4, 5, 6, 7, 8, 9, 10, 11] 12 rfl rfl (Nat.le_add_left _ _) rfl (J1 true () hr))
   ·replace hr := inv_negB hb3 hr
    refine T.field .list rfl (wants1 rfl rfl rfl hb3) rfl rfl ?_
    refine T.load .list 0 rfl rfl (wants1 rfl rfl rfl hb3) rfl rfl rfl ?_
    refine T.move .list rfl (wants1 rfl rfl rfl hb3) rfl rfl ?_
    refine T.bin .list rfl (wants1 rfl rfl rfl hb3) rfl rfl rfl rfl ?_
    refine T.pickF .list rfl (wants0 rfl) rfl rfl hb3 rfl ?_
    refine T.nil ?_
    refine T.then_normal ?_
    exact T.le (EnvLe.cons rfl (EnvLe.cons rfl (EnvLe.cons rfl EnvLe.nil))) (T.pick [1, 2, 3, 4, 5, 6, 7, 8, 9, 10, 11] 12 rfl rfl (Nat.le_add_left _ _) rfl (J1 (!(decide (r1.1.2.2 = a1))) () hr))
  ·replace hr := inv_negB hb2 hr
   refine T.leave .list (wantsNot rfl rfl rfl (not_f hb2)) rfl ?_
   refine T.leave .list (wantsNot rfl rfl rfl (not_f hb2)) rfl ?_
   refine T.leave .list (wantsNot rfl rfl rfl (not_f hb2)) rfl ?_
   refine T.pickT .list rfl (wants0 rfl) rfl rfl (not_f hb2) rfl ?_
   refine T.move .list rfl (wants0 rfl) rfl rfl ?_
   refine T.leave .list (wantsNot rfl rfl rfl rfl) rfl ?_
   refine T.leave .list (wantsNot rfl rfl rfl rfl) rfl ?_
   refine T.leave .list (wantsNot rfl rfl rfl rfl) rfl ?_
   refine T.leave .list (wantsNot rfl rfl rfl rfl) rfl ?_
   refine T.pickT .list rfl (wants0 rfl) rfl rfl rfl rfl ?_
   refine T.nil ?_
   refine T.then_normal ?_
   exact T.le (EnvLe.cons rfl (EnvLe.cons rfl (EnvLe.cons rfl EnvLe.nil))) (T.pick [1, 2, 3, 4, 5, 6, 7, 8, 9, 10, 11] 12 rfl rfl (Nat.le_add_left _ _) rfl (J1 true () hr))

noncomputable def lease_clock.impl (a0 : Int) : Option Bool :=
  (if ((decide ((0 : Int) ≤ a0))) = true then some (decide (a0 ≤ 1099511627776)) else some false)
set_option maxRecDepth 100000 in
set_option maxHeartbeats 4000000 in
theorem lease_clock.c {B : World} {hs : List MP} {w : World} {a0 : Int} (hS : St B (hs) w) {r : Bool} (hr : lease_clock.impl a0 = some r) :
    Calls Try.prog 35 #[.int .i64 a0] w fun e w' => ∃ x : Unit, e = .returned (.bool r) ∧ St B (hs) w' := by
 unfold lease_clock.impl at hr
 refine calls_T Try.func35 rfl rfl rfl hS ?_
 refine T.seq ?_
 refine T.region ?_
 refine T.assign .list rfl (wants0 rfl) rfl rfl ?_
 refine T.nil ?_
 refine T.then_normal ?_
 refine T.seq ?_
 refine T.region ?_
 refine T.move .list rfl (wants0 rfl) rfl rfl ?_
 refine T.bin .list rfl (wants0 rfl) rfl rfl rfl rfl ?_
 refine T.move .list rfl (wants0 rfl) rfl rfl ?_
 refine T.bool (b := (decide ((0 : Int) ≤ a0))) (fun hb1 => ?_) (fun hb1 => ?_)
 ·replace hr := inv_posB hb1 hr
  refine T.move .list rfl (wants1 rfl rfl rfl hb1) rfl rfl ?_
  refine T.bin .list rfl (wants1 rfl rfl rfl hb1) rfl rfl rfl rfl ?_
  refine T.pickT .list rfl (wants0 rfl) rfl rfl hb1 rfl ?_
  refine T.assign .list rfl (wants0 rfl) rfl rfl ?_
  refine T.nil ?_
  refine T.then_normal ?_
  refine T.ret ?_
  obtain rfl := inv_some hr
  refine T.pick [] 0 rfl rfl (Nat.le_add_left _ _) rfl ?_
  refine T.ret1 rfl rfl (fun w hS => ⟨(), rfl, hS⟩)
 ·replace hr := inv_negB hb1 hr
  refine T.leave .list (wantsNot rfl rfl rfl hb1) rfl ?_
  refine T.leave .list (wantsNot rfl rfl rfl hb1) rfl ?_
  refine T.pickF .list rfl (wants0 rfl) rfl rfl hb1 rfl ?_
  refine T.assign .list rfl (wants0 rfl) rfl rfl ?_
  refine T.nil ?_
  refine T.then_normal ?_
  refine T.ret ?_
  obtain rfl := inv_some hr
  refine T.pick [] 0 rfl rfl (Nat.le_add_left _ _) rfl ?_
  refine T.ret1 rfl rfl (fun w hS => ⟨(), rfl, hS⟩)

noncomputable def lease_right.impl (a0 : Int) (a1 : Int) (a2 : Int) (a3 : Int) : Option Bool :=
  (lease_clock.impl a0).bind fun r1 => (if r1 = true then (lease_clock.impl a1).bind fun r2 => (if r2 = true then (if ((decide ((1 : Int) ≤ a2))) = true then (if ((decide (a2 ≤ 1048576))) = true then (if ((decide ((0 : Int) ≤ a3))) = true then some (decide (a3 ≤ 500)) else some false) else some false) else some false) else some false) else some false)
set_option maxRecDepth 100000 in
set_option maxHeartbeats 4000000 in
theorem lease_right.c {B : World} {hs : List MP} {w : World} {a0 : Int} {a1 : Int} {a2 : Int} {a3 : Int} (hS : St B (hs) w) {r : Bool} (hr : lease_right.impl a0 a1 a2 a3 = some r) :
    Calls Try.prog 33 #[.int .i64 a0, .int .i64 a1, .int .i64 a2, .int .i64 a3] w fun e w' => ∃ x : Unit, e = .returned (.bool r) ∧ St B (hs) w' := by
 unfold lease_right.impl at hr
 refine calls_T Try.func33 rfl rfl rfl hS ?_
 refine T.seq ?_
 refine T.region ?_
 refine T.assign .list rfl (wants0 rfl) rfl rfl ?_
 refine T.nil ?_
 refine T.then_normal ?_
 refine T.seq ?_
 refine T.region ?_
 refine T.move .list rfl (wants0 rfl) rfl rfl ?_
 obtain ⟨r1, hg1, hr⟩ := inv_bind hr
 refine T.call .list (wants0 rfl) rfl (run_callF (vs := [_]) rfl Try.func35 rfl (by decide) rfl) (fun w hS => lease_clock.c hS  hg1) (fun x1 => ?_)
 refine T.move .list rfl (wants0 rfl) rfl rfl ?_
 refine T.bool (b := r1) (fun hb1 => ?_) (fun hb1 => ?_)
 ·replace hr := inv_posB hb1 hr
  refine T.move .list rfl (wants1 rfl rfl rfl hb1) rfl rfl ?_
  obtain ⟨r2, hg2, hr⟩ := inv_bind hr
  refine T.call .list (wants1 rfl rfl rfl hb1) rfl (run_callF (vs := [_]) rfl Try.func35 rfl (by decide) rfl) (fun w hS => lease_clock.c hS  hg2) (fun x2 => ?_)
  refine T.pickT .list rfl (wants0 rfl) rfl rfl hb1 rfl ?_
  refine T.move .list rfl (wants0 rfl) rfl rfl ?_
  refine T.bool (b := r2) (fun hb2 => ?_) (fun hb2 => ?_)
  ·replace hr := inv_posB hb2 hr
   refine T.move .list rfl (wants1 rfl rfl rfl hb2) rfl rfl ?_
   refine T.bin .list rfl (wants1 rfl rfl rfl hb2) rfl rfl rfl rfl ?_
   refine T.pickT .list rfl (wants0 rfl) rfl rfl hb2 rfl ?_
   refine T.move .list rfl (wants0 rfl) rfl rfl ?_
   refine T.bool (b := (decide ((1 : Int) ≤ a2))) (fun hb3 => ?_) (fun hb3 => ?_)
   ·replace hr := inv_posB hb3 hr
    refine T.move .list rfl (wants1 rfl rfl rfl hb3) rfl rfl ?_
    refine T.bin .list rfl (wants1 rfl rfl rfl hb3) rfl rfl rfl rfl ?_
    refine T.pickT .list rfl (wants0 rfl) rfl rfl hb3 rfl ?_
    refine T.move .list rfl (wants0 rfl) rfl rfl ?_
    refine T.bool (b := (decide (a2 ≤ 1048576))) (fun hb4 => ?_) (fun hb4 => ?_)
    ·replace hr := inv_posB hb4 hr
     refine T.move .list rfl (wants1 rfl rfl rfl hb4) rfl rfl ?_
     refine T.bin .list rfl (wants1 rfl rfl rfl hb4) rfl rfl rfl rfl ?_
     refine T.pickT .list rfl (wants0 rfl) rfl rfl hb4 rfl ?_
     refine T.move .list rfl (wants0 rfl) rfl rfl ?_
     refine T.bool (b := (decide ((0 : Int) ≤ a3))) (fun hb5 => ?_) (fun hb5 => ?_)
     ·replace hr := inv_posB hb5 hr
      refine T.move .list rfl (wants1 rfl rfl rfl hb5) rfl rfl ?_
      refine T.bin .list rfl (wants1 rfl rfl rfl hb5) rfl rfl rfl rfl ?_
      refine T.pickT .list rfl (wants0 rfl) rfl rfl hb5 rfl ?_
      refine T.assign .list rfl (wants0 rfl) rfl rfl ?_
      refine T.nil ?_
      refine T.then_normal ?_
      refine T.ret ?_
      obtain rfl := inv_some hr
      refine T.pick [] 0 rfl rfl (Nat.le_add_left _ _) rfl ?_
      refine T.ret1 rfl rfl (fun w hS => ⟨(), rfl, hS⟩)
     ·replace hr := inv_negB hb5 hr
      refine T.leave .list (wantsNot rfl rfl rfl hb5) rfl ?_
      refine T.leave .list (wantsNot rfl rfl rfl hb5) rfl ?_
      refine T.pickF .list rfl (wants0 rfl) rfl rfl hb5 rfl ?_
      refine T.assign .list rfl (wants0 rfl) rfl rfl ?_
      refine T.nil ?_
      refine T.then_normal ?_
      refine T.ret ?_
      obtain rfl := inv_some hr
      refine T.pick [] 0 rfl rfl (Nat.le_add_left _ _) rfl ?_
      refine T.ret1 rfl rfl (fun w hS => ⟨(), rfl, hS⟩)
    ·replace hr := inv_negB hb4 hr
     refine T.leave .list (wantsNot rfl rfl rfl hb4) rfl ?_
     refine T.leave .list (wantsNot rfl rfl rfl hb4) rfl ?_
     refine T.pickF .list rfl (wants0 rfl) rfl rfl hb4 rfl ?_
     refine T.move .list rfl (wants0 rfl) rfl rfl ?_
     refine T.leave .list (wantsNot rfl rfl rfl rfl) rfl ?_
     refine T.leave .list (wantsNot rfl rfl rfl rfl) rfl ?_
     refine T.pickF .list rfl (wants0 rfl) rfl rfl rfl rfl ?_
     refine T.assign .list rfl (wants0 rfl) rfl rfl ?_
     refine T.nil ?_
     refine T.then_normal ?_
     refine T.ret ?_
     obtain rfl := inv_some hr
     refine T.pick [] 0 rfl rfl (Nat.le_add_left _ _) rfl ?_
     refine T.ret1 rfl rfl (fun w hS => ⟨(), rfl, hS⟩)
   ·replace hr := inv_negB hb3 hr
    refine T.leave .list (wantsNot rfl rfl rfl hb3) rfl ?_
    refine T.leave .list (wantsNot rfl rfl rfl hb3) rfl ?_
    refine T.pickF .list rfl (wants0 rfl) rfl rfl hb3 rfl ?_
    refine T.move .list rfl (wants0 rfl) rfl rfl ?_
    refine T.leave .list (wantsNot rfl rfl rfl rfl) rfl ?_
    refine T.leave .list (wantsNot rfl rfl rfl rfl) rfl ?_
    refine T.pickF .list rfl (wants0 rfl) rfl rfl rfl rfl ?_
    refine T.move .list rfl (wants0 rfl) rfl rfl ?_
    refine T.leave .list (wantsNot rfl rfl rfl rfl) rfl ?_
    refine T.leave .list (wantsNot rfl rfl rfl rfl) rfl ?_
    refine T.pickF .list rfl (wants0 rfl) rfl rfl rfl rfl ?_
    refine T.assign .list rfl (wants0 rfl) rfl rfl ?_
    refine T.nil ?_
    refine T.then_normal ?_
    refine T.ret ?_
    obtain rfl := inv_some hr
    refine T.pick [] 0 rfl rfl (Nat.le_add_left _ _) rfl ?_
    refine T.ret1 rfl rfl (fun w hS => ⟨(), rfl, hS⟩)
  ·replace hr := inv_negB hb2 hr
   refine T.leave .list (wantsNot rfl rfl rfl hb2) rfl ?_
   refine T.leave .list (wantsNot rfl rfl rfl hb2) rfl ?_
   refine T.pickF .list rfl (wants0 rfl) rfl rfl hb2 rfl ?_
   refine T.move .list rfl (wants0 rfl) rfl rfl ?_
   refine T.leave .list (wantsNot rfl rfl rfl rfl) rfl ?_
   refine T.leave .list (wantsNot rfl rfl rfl rfl) rfl ?_
   refine T.pickF .list rfl (wants0 rfl) rfl rfl rfl rfl ?_
   refine T.move .list rfl (wants0 rfl) rfl rfl ?_
   refine T.leave .list (wantsNot rfl rfl rfl rfl) rfl ?_
   refine T.leave .list (wantsNot rfl rfl rfl rfl) rfl ?_
   refine T.pickF .list rfl (wants0 rfl) rfl rfl rfl rfl ?_
   refine T.move .list rfl (wants0 rfl) rfl rfl ?_
   refine T.leave .list (wantsNot rfl rfl rfl rfl) rfl ?_
   refine T.leave .list (wantsNot rfl rfl rfl rfl) rfl ?_
   refine T.pickF .list rfl (wants0 rfl) rfl rfl rfl rfl ?_
   refine T.assign .list rfl (wants0 rfl) rfl rfl ?_
   refine T.nil ?_
   refine T.then_normal ?_
   refine T.ret ?_
   obtain rfl := inv_some hr
   refine T.pick [] 0 rfl rfl (Nat.le_add_left _ _) rfl ?_
   refine T.ret1 rfl rfl (fun w hS => ⟨(), rfl, hS⟩)
 ·replace hr := inv_negB hb1 hr
  refine T.leave .list (wantsNot rfl rfl rfl hb1) rfl ?_
  refine T.leave .list (wantsNot rfl rfl rfl hb1) rfl ?_
  refine T.pickF .list rfl (wants0 rfl) rfl rfl hb1 rfl ?_
  refine T.move .list rfl (wants0 rfl) rfl rfl ?_
  refine T.leave .list (wantsNot rfl rfl rfl rfl) rfl ?_
  refine T.leave .list (wantsNot rfl rfl rfl rfl) rfl ?_
  refine T.pickF .list rfl (wants0 rfl) rfl rfl rfl rfl ?_
  refine T.move .list rfl (wants0 rfl) rfl rfl ?_
  refine T.leave .list (wantsNot rfl rfl rfl rfl) rfl ?_
  refine T.leave .list (wantsNot rfl rfl rfl rfl) rfl ?_
  refine T.pickF .list rfl (wants0 rfl) rfl rfl rfl rfl ?_
  refine T.move .list rfl (wants0 rfl) rfl rfl ?_
  refine T.leave .list (wantsNot rfl rfl rfl rfl) rfl ?_
  refine T.leave .list (wantsNot rfl rfl rfl rfl) rfl ?_
  refine T.pickF .list rfl (wants0 rfl) rfl rfl rfl rfl ?_
  refine T.move .list rfl (wants0 rfl) rfl rfl ?_
  refine T.leave .list (wantsNot rfl rfl rfl rfl) rfl ?_
  refine T.leave .list (wantsNot rfl rfl rfl rfl) rfl ?_
  refine T.pickF .list rfl (wants0 rfl) rfl rfl rfl rfl ?_
  refine T.assign .list rfl (wants0 rfl) rfl rfl ?_
  refine T.nil ?_
  refine T.then_normal ?_
  refine T.ret ?_
  obtain rfl := inv_some hr
  refine T.pick [] 0 rfl rfl (Nat.le_add_left _ _) rfl ?_
  refine T.ret1 rfl rfl (fun w hS => ⟨(), rfl, hS⟩)

noncomputable def lease_Serves.impl (a0 : Int) (a1 : Int) (a2 : Int) (a3 : Int) : Option Bool :=
  (lease_right.impl a0 a1 a2 a3).bind fun r1 => (if r1 = true then (if ((decide (a1 ≤ a0))) = true then some (decide (((IntKind.i64.wrap ((IntKind.i64.wrap (a0 - a1)) * 1000))) < (IntKind.i64.wrap (a2 * (IntKind.i64.wrap (1000 - a3)))))) else some false) else some false)
set_option maxRecDepth 100000 in
set_option maxHeartbeats 4000000 in
theorem lease_Serves.c {B : World} {hs : List MP} {w : World} {a0 : Int} {a1 : Int} {a2 : Int} {a3 : Int} (hS : St B (hs) w) {r : Bool} (hr : lease_Serves.impl a0 a1 a2 a3 = some r) :
    Calls Try.prog 17 #[.int .i64 a0, .int .i64 a1, .int .i64 a2, .int .i64 a3] w fun e w' => ∃ x : Unit, e = .returned (.bool r) ∧ St B (hs) w' := by
 unfold lease_Serves.impl at hr
 refine calls_T Try.func17 rfl rfl rfl hS ?_
 refine T.seq ?_
 refine T.region ?_
 refine T.assign .list rfl (wants0 rfl) rfl rfl ?_
 refine T.nil ?_
 refine T.then_normal ?_
 refine T.seq ?_
 refine T.region ?_
 refine T.move .list rfl (wants0 rfl) rfl rfl ?_
 refine T.move .list rfl (wants0 rfl) rfl rfl ?_
 refine T.move .list rfl (wants0 rfl) rfl rfl ?_
 refine T.move .list rfl (wants0 rfl) rfl rfl ?_
 obtain ⟨r1, hg1, hr⟩ := inv_bind hr
 refine T.call .list (wants0 rfl) rfl (run_callF (vs := [_, _, _, _]) rfl Try.func33 rfl (by decide) rfl) (fun w hS => lease_right.c hS  hg1) (fun x1 => ?_)
 refine T.move .list rfl (wants0 rfl) rfl rfl ?_
 refine T.bool (b := r1) (fun hb1 => ?_) (fun hb1 => ?_)
 ·replace hr := inv_posB hb1 hr
  refine T.move .list rfl (wants1 rfl rfl rfl hb1) rfl rfl ?_
  refine T.move .list rfl (wants1 rfl rfl rfl hb1) rfl rfl ?_
  refine T.bin .list rfl (wants1 rfl rfl rfl hb1) rfl rfl rfl rfl ?_
  refine T.pickT .list rfl (wants0 rfl) rfl rfl hb1 rfl ?_
  refine T.move .list rfl (wants0 rfl) rfl rfl ?_
  refine T.bool (b := (decide (a1 ≤ a0))) (fun hb2 => ?_) (fun hb2 => ?_)
  ·replace hr := inv_posB hb2 hr
   refine T.move .list rfl (wants1 rfl rfl rfl hb2) rfl rfl ?_
   refine T.move .list rfl (wants1 rfl rfl rfl hb2) rfl rfl ?_
   refine T.bin .list rfl (wants1 rfl rfl rfl hb2) rfl rfl rfl rfl ?_
   refine T.bin .list rfl (wants1 rfl rfl rfl hb2) rfl rfl rfl rfl ?_
   refine T.move .list rfl (wants1 rfl rfl rfl hb2) rfl rfl ?_
   refine T.move .list rfl (wants1 rfl rfl rfl hb2) rfl rfl ?_
   refine T.bin .list rfl (wants1 rfl rfl rfl hb2) rfl rfl rfl rfl ?_
   refine T.bin .list rfl (wants1 rfl rfl rfl hb2) rfl rfl rfl rfl ?_
   refine T.bin .list rfl (wants1 rfl rfl rfl hb2) rfl rfl rfl rfl ?_
   refine T.pickT .list rfl (wants0 rfl) rfl rfl hb2 rfl ?_
   refine T.assign .list rfl (wants0 rfl) rfl rfl ?_
   refine T.nil ?_
   refine T.then_normal ?_
   refine T.ret ?_
   obtain rfl := inv_some hr
   refine T.pick [] 0 rfl rfl (Nat.le_add_left _ _) rfl ?_
   refine T.ret1 rfl rfl (fun w hS => ⟨(), rfl, hS⟩)
  ·replace hr := inv_negB hb2 hr
   refine T.leave .list (wantsNot rfl rfl rfl hb2) rfl ?_
   refine T.leave .list (wantsNot rfl rfl rfl hb2) rfl ?_
   refine T.leave .list (wantsNot rfl rfl rfl hb2) rfl ?_
   refine T.leave .list (wantsNot rfl rfl rfl hb2) rfl ?_
   refine T.leave .list (wantsNot rfl rfl rfl hb2) rfl ?_
   refine T.leave .list (wantsNot rfl rfl rfl hb2) rfl ?_
   refine T.leave .list (wantsNot rfl rfl rfl hb2) rfl ?_
   refine T.leave .list (wantsNot rfl rfl rfl hb2) rfl ?_
   refine T.leave .list (wantsNot rfl rfl rfl hb2) rfl ?_
   refine T.pickF .list rfl (wants0 rfl) rfl rfl hb2 rfl ?_
   refine T.assign .list rfl (wants0 rfl) rfl rfl ?_
   refine T.nil ?_
   refine T.then_normal ?_
   refine T.ret ?_
   obtain rfl := inv_some hr
   refine T.pick [] 0 rfl rfl (Nat.le_add_left _ _) rfl ?_
   refine T.ret1 rfl rfl (fun w hS => ⟨(), rfl, hS⟩)
 ·replace hr := inv_negB hb1 hr
  refine T.leave .list (wantsNot rfl rfl rfl hb1) rfl ?_
  refine T.leave .list (wantsNot rfl rfl rfl hb1) rfl ?_
  refine T.leave .list (wantsNot rfl rfl rfl hb1) rfl ?_
  refine T.pickF .list rfl (wants0 rfl) rfl rfl hb1 rfl ?_
  refine T.move .list rfl (wants0 rfl) rfl rfl ?_
  refine T.leave .list (wantsNot rfl rfl rfl rfl) rfl ?_
  refine T.leave .list (wantsNot rfl rfl rfl rfl) rfl ?_
  refine T.leave .list (wantsNot rfl rfl rfl rfl) rfl ?_
  refine T.leave .list (wantsNot rfl rfl rfl rfl) rfl ?_
  refine T.leave .list (wantsNot rfl rfl rfl rfl) rfl ?_
  refine T.leave .list (wantsNot rfl rfl rfl rfl) rfl ?_
  refine T.leave .list (wantsNot rfl rfl rfl rfl) rfl ?_
  refine T.leave .list (wantsNot rfl rfl rfl rfl) rfl ?_
  refine T.leave .list (wantsNot rfl rfl rfl rfl) rfl ?_
  refine T.pickF .list rfl (wants0 rfl) rfl rfl rfl rfl ?_
  refine T.assign .list rfl (wants0 rfl) rfl rfl ?_
  refine T.nil ?_
  refine T.then_normal ?_
  refine T.ret ?_
  obtain rfl := inv_some hr
  refine T.pick [] 0 rfl rfl (Nat.le_add_left _ _) rfl ?_
  refine T.ret1 rfl rfl (fun w hS => ⟨(), rfl, hS⟩)

noncomputable def lease_Ended.impl (a0 : Int) (a1 : Int) (a2 : Int) (a3 : Int) : Option Bool :=
  (lease_right.impl a0 a1 a2 a3).bind fun r1 => (if r1 = true then some (decide (((IntKind.i64.wrap (a2 * (IntKind.i64.wrap (1000 + a3))))) < (IntKind.i64.wrap ((IntKind.i64.wrap (a0 - a1)) * 1000)))) else some false)
set_option maxRecDepth 100000 in
set_option maxHeartbeats 4000000 in
theorem lease_Ended.c {B : World} {hs : List MP} {w : World} {a0 : Int} {a1 : Int} {a2 : Int} {a3 : Int} (hS : St B (hs) w) {r : Bool} (hr : lease_Ended.impl a0 a1 a2 a3 = some r) :
    Calls Try.prog 18 #[.int .i64 a0, .int .i64 a1, .int .i64 a2, .int .i64 a3] w fun e w' => ∃ x : Unit, e = .returned (.bool r) ∧ St B (hs) w' := by
 unfold lease_Ended.impl at hr
 refine calls_T Try.func18 rfl rfl rfl hS ?_
 refine T.seq ?_
 refine T.region ?_
 refine T.assign .list rfl (wants0 rfl) rfl rfl ?_
 refine T.nil ?_
 refine T.then_normal ?_
 refine T.seq ?_
 refine T.region ?_
 refine T.move .list rfl (wants0 rfl) rfl rfl ?_
 refine T.move .list rfl (wants0 rfl) rfl rfl ?_
 refine T.move .list rfl (wants0 rfl) rfl rfl ?_
 refine T.move .list rfl (wants0 rfl) rfl rfl ?_
 obtain ⟨r1, hg1, hr⟩ := inv_bind hr
 refine T.call .list (wants0 rfl) rfl (run_callF (vs := [_, _, _, _]) rfl Try.func33 rfl (by decide) rfl) (fun w hS => lease_right.c hS  hg1) (fun x1 => ?_)
 refine T.move .list rfl (wants0 rfl) rfl rfl ?_
 refine T.bool (b := r1) (fun hb1 => ?_) (fun hb1 => ?_)
 ·replace hr := inv_posB hb1 hr
  refine T.move .list rfl (wants1 rfl rfl rfl hb1) rfl rfl ?_
  refine T.move .list rfl (wants1 rfl rfl rfl hb1) rfl rfl ?_
  refine T.bin .list rfl (wants1 rfl rfl rfl hb1) rfl rfl rfl rfl ?_
  refine T.bin .list rfl (wants1 rfl rfl rfl hb1) rfl rfl rfl rfl ?_
  refine T.move .list rfl (wants1 rfl rfl rfl hb1) rfl rfl ?_
  refine T.move .list rfl (wants1 rfl rfl rfl hb1) rfl rfl ?_
  refine T.bin .list rfl (wants1 rfl rfl rfl hb1) rfl rfl rfl rfl ?_
  refine T.bin .list rfl (wants1 rfl rfl rfl hb1) rfl rfl rfl rfl ?_
  refine T.bin .list rfl (wants1 rfl rfl rfl hb1) rfl rfl rfl rfl ?_
  refine T.pickT .list rfl (wants0 rfl) rfl rfl hb1 rfl ?_
  refine T.assign .list rfl (wants0 rfl) rfl rfl ?_
  refine T.nil ?_
  refine T.then_normal ?_
  refine T.ret ?_
  obtain rfl := inv_some hr
  refine T.pick [] 0 rfl rfl (Nat.le_add_left _ _) rfl ?_
  refine T.ret1 rfl rfl (fun w hS => ⟨(), rfl, hS⟩)
 ·replace hr := inv_negB hb1 hr
  refine T.leave .list (wantsNot rfl rfl rfl hb1) rfl ?_
  refine T.leave .list (wantsNot rfl rfl rfl hb1) rfl ?_
  refine T.leave .list (wantsNot rfl rfl rfl hb1) rfl ?_
  refine T.leave .list (wantsNot rfl rfl rfl hb1) rfl ?_
  refine T.leave .list (wantsNot rfl rfl rfl hb1) rfl ?_
  refine T.leave .list (wantsNot rfl rfl rfl hb1) rfl ?_
  refine T.leave .list (wantsNot rfl rfl rfl hb1) rfl ?_
  refine T.leave .list (wantsNot rfl rfl rfl hb1) rfl ?_
  refine T.leave .list (wantsNot rfl rfl rfl hb1) rfl ?_
  refine T.pickF .list rfl (wants0 rfl) rfl rfl hb1 rfl ?_
  refine T.assign .list rfl (wants0 rfl) rfl rfl ?_
  refine T.nil ?_
  refine T.then_normal ?_
  refine T.ret ?_
  obtain rfl := inv_some hr
  refine T.pick [] 0 rfl rfl (Nat.le_add_left _ _) rfl ?_
  refine T.ret1 rfl rfl (fun w hS => ⟨(), rfl, hS⟩)

noncomputable def lease_Within.k1 (a0 : Int) (a1 : Int) (a2 : Int) (s1 : Bool) : Option Bool :=
  (if s1 = true then some false else some (decide (((IntKind.i64.wrap ((max (IntKind.i64.wrap (a0 - a1)) (IntKind.i64.wrap (a1 - a0))) * 1000))) ≤ (IntKind.i64.wrap (a0 * a2)))))
noncomputable def lease_Within.impl (a0 : Int) (a1 : Int) (a2 : Int) : Option Bool :=
  (lease_clock.impl a0).bind fun r1 => (if r1 = true then (lease_clock.impl a1).bind fun r2 => (if r2 = true then (if ((decide (a2 < 0))) = true then lease_Within.k1 a0 a1 a2 true else lease_Within.k1 a0 a1 a2 (decide ((500 : Int) < a2))) else lease_Within.k1 a0 a1 a2 true) else lease_Within.k1 a0 a1 a2 true)
set_option maxRecDepth 100000 in
set_option maxHeartbeats 4000000 in
theorem lease_Within.c {B : World} {hs : List MP} {w : World} {a0 : Int} {a1 : Int} {a2 : Int} (hS : St B (hs) w) {r : Bool} (hr : lease_Within.impl a0 a1 a2 = some r) :
    Calls Try.prog 21 #[.int .i64 a0, .int .i64 a1, .int .i64 a2] w fun e w' => ∃ x : Unit, e = .returned (.bool r) ∧ St B (hs) w' := by
 unfold lease_Within.impl at hr
 refine calls_T Try.func21 rfl rfl rfl hS ?_
 refine T.seq ?_
 refine T.region ?_
 refine T.assign .list rfl (wants0 rfl) rfl rfl ?_
 refine T.nil ?_
 refine T.then_normal ?_
 refine T.seq ?_
 refine T.seqJ (fun (s1 : Bool) (x1 : Unit) => [(0, .int .i64 a0), (1, .int .i64 a1), (2, .int .i64 a2), (22, .bool s1)]) (fun s1 x1 => hs) (fun s1 => lease_Within.k1 a0 a1 a2 s1 = some r) (fun s1 x1 hk1 => ?_) (fun J1 => ?_)
 ·unfold lease_Within.k1 at hk1
  refine T.cond rfl (fun hb1 => ?_) (fun hb1 => ?_)
  ·replace hk1 := inv_posB hb1 hk1
   refine T.seq ?_
   refine T.region ?_
   refine T.assign .list rfl (wants0 rfl) rfl rfl ?_
   refine T.nil ?_
   refine T.then_normal ?_
   refine T.ret ?_
   refine T.then_ret ?_
   obtain rfl := inv_some hk1
   refine T.pick [] 0 rfl rfl (Nat.le_add_left _ _) rfl ?_
   refine T.ret1 rfl rfl (fun w hS => ⟨(), rfl, hS⟩)
  ·replace hk1 := inv_negB hb1 hk1
   refine T.skip ?_
   refine T.then_normal ?_
   refine T.seq ?_
   refine T.region ?_
   refine T.move .list rfl (wants0 rfl) rfl rfl ?_
   refine T.move .list rfl (wants0 rfl) rfl rfl ?_
   refine T.bin .list rfl (wants0 rfl) rfl rfl rfl rfl ?_
   refine T.move .list rfl (wants0 rfl) rfl rfl ?_
   refine T.move .list rfl (wants0 rfl) rfl rfl ?_
   refine T.bin .list rfl (wants0 rfl) rfl rfl rfl rfl ?_
   refine T.max2 .list rfl (wants0 rfl) rfl rfl rfl ?_
   refine T.bin .list rfl (wants0 rfl) rfl rfl rfl rfl ?_
   refine T.move .list rfl (wants0 rfl) rfl rfl ?_
   refine T.move .list rfl (wants0 rfl) rfl rfl ?_
   refine T.bin .list rfl (wants0 rfl) rfl rfl rfl rfl ?_
   refine T.bin .list rfl (wants0 rfl) rfl rfl rfl rfl ?_
   refine T.assign .list rfl (wants0 rfl) rfl rfl ?_
   refine T.nil ?_
   refine T.then_normal ?_
   refine T.ret ?_
   obtain rfl := inv_some hk1
   refine T.pick [] 0 rfl rfl (Nat.le_add_left _ _) rfl ?_
   refine T.ret1 rfl rfl (fun w hS => ⟨(), rfl, hS⟩)
 ·refine T.region ?_
  refine T.move .list rfl (wants0 rfl) rfl rfl ?_
  obtain ⟨r1, hg1, hr⟩ := inv_bind hr
  refine T.call .list (wants0 rfl) rfl (run_callF (vs := [_]) rfl Try.func35 rfl (by decide) rfl) (fun w hS => lease_clock.c hS  hg1) (fun x2 => ?_)
  refine T.not .list rfl (wants0 rfl) rfl rfl ?_
  refine T.move .list rfl (wants0 rfl) rfl rfl ?_
  refine T.bool (b := r1) (fun hb2 => ?_) (fun hb2 => ?_)
  ·replace hr := inv_posB hb2 hr
   refine T.move .list rfl (wants1 rfl rfl rfl (not_t hb2)) rfl rfl ?_
   obtain ⟨r2, hg2, hr⟩ := inv_bind hr
   refine T.call .list (wants1 rfl rfl rfl (not_t hb2)) rfl (run_callF (vs := [_]) rfl Try.func35 rfl (by decide) rfl) (fun w hS => lease_clock.c hS  hg2) (fun x3 => ?_)
   refine T.not .list rfl (wants1 rfl rfl rfl (not_t hb2)) rfl rfl ?_
   refine T.pickF .list rfl (wants0 rfl) rfl rfl (not_t hb2) rfl ?_
   refine T.move .list rfl (wants0 rfl) rfl rfl ?_
   refine T.bool (b := r2) (fun hb3 => ?_) (fun hb3 => ?_)
   ·replace hr := inv_posB hb3 hr
    refine T.move .list rfl (wants1 rfl rfl rfl (not_t hb3)) rfl rfl ?_
    refine T.bin .list rfl (wants1 rfl rfl rfl (not_t hb3)) rfl rfl rfl rfl ?_
    refine T.pickF .list rfl (wants0 rfl) rfl rfl (not_t hb3) rfl ?_
    refine T.move .list rfl (wants0 rfl) rfl rfl ?_
    refine T.bool (b := (decide (a2 < 0))) (fun hb4 => ?_) (fun hb4 => ?_)
    ·replace hr := inv_posB hb4 hr
     refine T.leave .list (wantsNot rfl rfl rfl hb4) rfl ?_
     refine T.leave .list (wantsNot rfl rfl rfl hb4) rfl ?_
     refine T.pickT .list rfl (wants0 rfl) rfl rfl hb4 rfl ?_
     refine T.nil ?_
     refine T.then_normal ?_
     exact T.le (EnvLe.cons rfl (EnvLe.cons rfl (EnvLe.cons rfl (EnvLe.cons rfl EnvLe.nil)))) (T.pick [] 0 rfl rfl (Nat.le_add_left _ _) rfl (J1 true () hr))
    ·replace hr := inv_negB hb4 hr
     refine T.move .list rfl (wants1 rfl rfl rfl hb4) rfl rfl ?_
     refine T.bin .list rfl (wants1 rfl rfl rfl hb4) rfl rfl rfl rfl ?_
     refine T.pickF .list rfl (wants0 rfl) rfl rfl hb4 rfl ?_
     refine T.nil ?_
     refine T.then_normal ?_
     exact T.le (EnvLe.cons rfl (EnvLe.cons rfl (EnvLe.cons rfl (EnvLe.cons rfl EnvLe.nil)))) (T.pick [] 0 rfl rfl (Nat.le_add_left _ _) rfl (J1 (decide ((500 : Int) < a2)) () hr))
   ·replace hr := inv_negB hb3 hr
    refine T.leave .list (wantsNot rfl rfl rfl (not_f hb3)) rfl ?_
    refine T.leave .list (wantsNot rfl rfl rfl (not_f hb3)) rfl ?_
    refine T.pickT .list rfl (wants0 rfl) rfl rfl (not_f hb3) rfl ?_
    refine T.move .list rfl (wants0 rfl) rfl rfl ?_
    refine T.leave .list (wantsNot rfl rfl rfl rfl) rfl ?_
    refine T.leave .list (wantsNot rfl rfl rfl rfl) rfl ?_
    refine T.pickT .list rfl (wants0 rfl) rfl rfl rfl rfl ?_
    refine T.nil ?_
    refine T.then_normal ?_
    exact T.le (EnvLe.cons rfl (EnvLe.cons rfl (EnvLe.cons rfl (EnvLe.cons rfl EnvLe.nil)))) (T.pick [] 0 rfl rfl (Nat.le_add_left _ _) rfl (J1 true () hr))
  ·replace hr := inv_negB hb2 hr
   refine T.leave .list (wantsNot rfl rfl rfl (not_f hb2)) rfl ?_
   refine T.leave .list (wantsNot rfl rfl rfl (not_f hb2)) rfl ?_
   refine T.leave .list (wantsNot rfl rfl rfl (not_f hb2)) rfl ?_
   refine T.pickT .list rfl (wants0 rfl) rfl rfl (not_f hb2) rfl ?_
   refine T.move .list rfl (wants0 rfl) rfl rfl ?_
   refine T.leave .list (wantsNot rfl rfl rfl rfl) rfl ?_
   refine T.leave .list (wantsNot rfl rfl rfl rfl) rfl ?_
   refine T.pickT .list rfl (wants0 rfl) rfl rfl rfl rfl ?_
   refine T.move .list rfl (wants0 rfl) rfl rfl ?_
   refine T.leave .list (wantsNot rfl rfl rfl rfl) rfl ?_
   refine T.leave .list (wantsNot rfl rfl rfl rfl) rfl ?_
   refine T.pickT .list rfl (wants0 rfl) rfl rfl rfl rfl ?_
   refine T.nil ?_
   refine T.then_normal ?_
   exact T.le (EnvLe.cons rfl (EnvLe.cons rfl (EnvLe.cons rfl (EnvLe.cons rfl EnvLe.nil)))) (T.pick [] 0 rfl rfl (Nat.le_add_left _ _) rfl (J1 true () hr))

noncomputable def lease_Now_nil0.impl  : Option ((Int × Int × Int) × Int) :=
  some ((0, 0, 0), 1)
set_option maxRecDepth 100000 in
set_option maxHeartbeats 4000000 in
theorem lease_Now_nil0.c {B : World} {hs : List MP} {w : World} (hS : St B (hs) w) {r : (Int × Int × Int) × Int} (hr : lease_Now_nil0.impl  = some r) :
    Calls Try.prog 13 #[.pointer none] w fun e w' => ∃ x : Unit, e = .returned (.tuple #[.agg #[.int .i64 r.1.1, .int .i64 r.1.2.1, .int .i64 r.1.2.2], .int .i64 r.2]) ∧ St B (hs) w' := by
 unfold lease_Now_nil0.impl at hr
 refine calls_T Try.func13 rfl rfl rfl hS ?_
 refine T.seq ?_
 refine T.region ?_
 refine T.allocS .list rfl (wants0 rfl) rfl (cs := [.int .i64 0, .int .i64 0, .int .i64 0]) rfl (fun b1 => ?_)
 refine T.assign .list rfl (wants0 rfl) rfl rfl ?_
 refine T.nil ?_
 refine T.then_normal ?_
 refine T.seq ?_
 refine T.seq ?_
 refine T.region ?_
 refine T.move .list rfl (wants0 rfl) rfl rfl ?_
 refine T.ptrEq (pt := 88) .list rfl (wants0 rfl) rfl rfl rfl (by kernel_rfl) (.inr rfl) rfl ?_
 refine T.nil ?_
 refine T.then_normal ?_
 refine T.condT rfl rfl ?_
 refine T.seq ?_
 refine T.region ?_
 refine T.build .list (vals := []) (cells := #[.int .i64 0, .int .i64 0, .int .i64 0]) rfl (wants0 rfl) rfl rfl (run_buildStruct (sizes := [1, 1, 1]) (by kernel_rfl) (by kernel_rfl)) ?_
 refine T.store .list 0 rfl rfl (wants0 rfl) rfl rfl rfl rfl (Nat.le_of_ble_eq_true rfl) rfl (cs' := [.int .i64 0, .int .i64 0, .int .i64 0]) rfl rfl ?_
 refine T.assign .list rfl (wants0 rfl) rfl rfl ?_
 refine T.nil ?_
 refine T.then_normal ?_
 refine T.ret ?_
 refine T.then_ret ?_
 obtain rfl := inv_some hr
 refine T.out2 rfl (OutRun.cellN 0 rfl rfl (vs := [.int .i64 0, .int .i64 0, .int .i64 0]) rfl rfl) (OutRun.tmp rfl) (fun w hS => ⟨(), rfl, hS.pick [] 1 rfl rfl (Nat.le_add_left _ _) rfl⟩)

noncomputable def law19_told.impl  : Option Bool :=
  (law13_New.impl ).bind fun r1 => (match r1 with | (none, r1p1) => (some false) | (some r1p0, r1p1) => ((lease_Now.impl ((r1p0.2.1.1, r1p0.2.1.2.1, r1p0.2.1.2.2.1, r1p0.2.1.2.2.2.1, r1p0.2.1.2.2.2.2.1, r1p0.2.1.2.2.2.2.2.1, r1p0.2.1.2.2.2.2.2.2.1, r1p0.2.1.2.2.2.2.2.2.2.1, r1p0.2.1.2.2.2.2.2.2.2.2.1, r1p0.2.1.2.2.2.2.2.2.2.2.2.1, r1p0.2.1.2.2.2.2.2.2.2.2.2.2.1, r1p0.2.1.2.2.2.2.2.2.2.2.2.2.2.1, r1p0.2.1.2.2.2.2.2.2.2.2.2.2.2.2.1, r1p0.2.1.2.2.2.2.2.2.2.2.2.2.2.2.2.1, r1p0.2.1.2.2.2.2.2.2.2.2.2.2.2.2.2.2.1, r1p0.2.1.2.2.2.2.2.2.2.2.2.2.2.2.2.2.2.1, r1p0.2.1.2.2.2.2.2.2.2.2.2.2.2.2.2.2.2.2)) ((r1p0.2.2.1.1, r1p0.2.2.1.2.1, r1p0.2.2.1.2.2.1, r1p0.2.2.1.2.2.2)) ((r1p0.2.2.2.1.1, r1p0.2.2.2.1.2.1, r1p0.2.2.2.1.2.2.1, r1p0.2.2.2.1.2.2.2)) r1p0.2.2.2.2.1 ((r1p0.2.2.2.2.2.1.1, r1p0.2.2.2.2.2.1.2.1, r1p0.2.2.2.2.2.1.2.2.1, r1p0.2.2.2.2.2.1.2.2.2.1, r1p0.2.2.2.2.2.1.2.2.2.2.1, r1p0.2.2.2.2.2.1.2.2.2.2.2.1, r1p0.2.2.2.2.2.1.2.2.2.2.2.2)) r1p0.2.2.2.2.2.2.1 r1p0.2.2.2.2.2.2.2.1 r1p0.2.2.2.2.2.2.2.2.1 r1p0.2.2.2.2.2.2.2.2.2.1 r1p0.2.2.2.2.2.2.2.2.2.2).bind fun r2 => (lease_Grant.impl ((r1p0.2.1.1, r1p0.2.1.2.1, r1p0.2.1.2.2.1, r1p0.2.1.2.2.2.1, r1p0.2.1.2.2.2.2.1, r1p0.2.1.2.2.2.2.2.1, r1p0.2.1.2.2.2.2.2.2.1, r1p0.2.1.2.2.2.2.2.2.2.1, r1p0.2.1.2.2.2.2.2.2.2.2.1, r1p0.2.1.2.2.2.2.2.2.2.2.2.1, r1p0.2.1.2.2.2.2.2.2.2.2.2.2.1, r1p0.2.1.2.2.2.2.2.2.2.2.2.2.2.1, r1p0.2.1.2.2.2.2.2.2.2.2.2.2.2.2.1, r1p0.2.1.2.2.2.2.2.2.2.2.2.2.2.2.2.1, r1p0.2.1.2.2.2.2.2.2.2.2.2.2.2.2.2.2.1, r1p0.2.1.2.2.2.2.2.2.2.2.2.2.2.2.2.2.2.1, r1p0.2.1.2.2.2.2.2.2.2.2.2.2.2.2.2.2.2.2)) ((r1p0.2.2.1.1, r1p0.2.2.1.2.1, r1p0.2.2.1.2.2.1, r1p0.2.2.1.2.2.2)) ((r1p0.2.2.2.1.1, r1p0.2.2.2.1.2.1, r1p0.2.2.2.1.2.2.1, r1p0.2.2.2.1.2.2.2)) r1p0.2.2.2.2.1 ((r1p0.2.2.2.2.2.1.1, r1p0.2.2.2.2.2.1.2.1, r1p0.2.2.2.2.2.1.2.2.1, r1p0.2.2.2.2.2.1.2.2.2.1, r1p0.2.2.2.2.2.1.2.2.2.2.1, r1p0.2.2.2.2.2.1.2.2.2.2.2.1, r1p0.2.2.2.2.2.1.2.2.2.2.2.2)) r1p0.2.2.2.2.2.2.1 r1p0.2.2.2.2.2.2.2.1 r1p0.2.2.2.2.2.2.2.2.1 r1p0.2.2.2.2.2.2.2.2.2.1 r1p0.2.2.2.2.2.2.2.2.2.2 2 10 5).bind fun r3 => (lease_Grant.impl ((r1p0.2.1.1, r1p0.2.1.2.1, r1p0.2.1.2.2.1, r1p0.2.1.2.2.2.1, r1p0.2.1.2.2.2.2.1, r1p0.2.1.2.2.2.2.2.1, r1p0.2.1.2.2.2.2.2.2.1, r1p0.2.1.2.2.2.2.2.2.2.1, r1p0.2.1.2.2.2.2.2.2.2.2.1, r1p0.2.1.2.2.2.2.2.2.2.2.2.1, r1p0.2.1.2.2.2.2.2.2.2.2.2.2.1, r1p0.2.1.2.2.2.2.2.2.2.2.2.2.2.1, r1p0.2.1.2.2.2.2.2.2.2.2.2.2.2.2.1, r1p0.2.1.2.2.2.2.2.2.2.2.2.2.2.2.2.1, r1p0.2.1.2.2.2.2.2.2.2.2.2.2.2.2.2.2.1, r1p0.2.1.2.2.2.2.2.2.2.2.2.2.2.2.2.2.2.1, r1p0.2.1.2.2.2.2.2.2.2.2.2.2.2.2.2.2.2.2)) ((r1p0.2.2.1.1, r1p0.2.2.1.2.1, r1p0.2.2.1.2.2.1, r1p0.2.2.1.2.2.2)) ((r1p0.2.2.2.1.1, r1p0.2.2.2.1.2.1, r1p0.2.2.2.1.2.2.1, r1p0.2.2.2.1.2.2.2)) r1p0.2.2.2.2.1 ((r1p0.2.2.2.2.2.1.1, r1p0.2.2.2.2.2.1.2.1, r1p0.2.2.2.2.2.1.2.2.1, r1p0.2.2.2.2.2.1.2.2.2.1, r1p0.2.2.2.2.2.1.2.2.2.2.1, r1p0.2.2.2.2.2.1.2.2.2.2.2.1, r1p0.2.2.2.2.2.1.2.2.2.2.2.2)) r1p0.2.2.2.2.2.2.1 r1p0.2.2.2.2.2.2.2.1 r1p0.2.2.2.2.2.2.2.2.1 r1p0.2.2.2.2.2.2.2.2.2.1 r3.2.2 1 10 6).bind fun r4 => (lease_Now.impl ((r1p0.2.1.1, r1p0.2.1.2.1, r1p0.2.1.2.2.1, r1p0.2.1.2.2.2.1, r1p0.2.1.2.2.2.2.1, r1p0.2.1.2.2.2.2.2.1, r1p0.2.1.2.2.2.2.2.2.1, r1p0.2.1.2.2.2.2.2.2.2.1, r1p0.2.1.2.2.2.2.2.2.2.2.1, r1p0.2.1.2.2.2.2.2.2.2.2.2.1, r1p0.2.1.2.2.2.2.2.2.2.2.2.2.1, r1p0.2.1.2.2.2.2.2.2.2.2.2.2.2.1, r1p0.2.1.2.2.2.2.2.2.2.2.2.2.2.2.1, r1p0.2.1.2.2.2.2.2.2.2.2.2.2.2.2.2.1, r1p0.2.1.2.2.2.2.2.2.2.2.2.2.2.2.2.2.1, r1p0.2.1.2.2.2.2.2.2.2.2.2.2.2.2.2.2.2.1, r1p0.2.1.2.2.2.2.2.2.2.2.2.2.2.2.2.2.2.2)) ((r1p0.2.2.1.1, r1p0.2.2.1.2.1, r1p0.2.2.1.2.2.1, r1p0.2.2.1.2.2.2)) ((r1p0.2.2.2.1.1, r1p0.2.2.2.1.2.1, r1p0.2.2.2.1.2.2.1, r1p0.2.2.2.1.2.2.2)) r1p0.2.2.2.2.1 ((r1p0.2.2.2.2.2.1.1, r1p0.2.2.2.2.2.1.2.1, r1p0.2.2.2.2.2.1.2.2.1, r1p0.2.2.2.2.2.1.2.2.2.1, r1p0.2.2.2.2.2.1.2.2.2.2.1, r1p0.2.2.2.2.2.1.2.2.2.2.2.1, r1p0.2.2.2.2.2.1.2.2.2.2.2.2)) r1p0.2.2.2.2.2.2.1 r1p0.2.2.2.2.2.2.2.1 r1p0.2.2.2.2.2.2.2.2.1 r1p0.2.2.2.2.2.2.2.2.2.1 r4.2.2).bind fun r5 => (lease_End.impl ((r1p0.2.1.1, r1p0.2.1.2.1, r1p0.2.1.2.2.1, r1p0.2.1.2.2.2.1, r1p0.2.1.2.2.2.2.1, r1p0.2.1.2.2.2.2.2.1, r1p0.2.1.2.2.2.2.2.2.1, r1p0.2.1.2.2.2.2.2.2.2.1, r1p0.2.1.2.2.2.2.2.2.2.2.1, r1p0.2.1.2.2.2.2.2.2.2.2.2.1, r1p0.2.1.2.2.2.2.2.2.2.2.2.2.1, r1p0.2.1.2.2.2.2.2.2.2.2.2.2.2.1, r1p0.2.1.2.2.2.2.2.2.2.2.2.2.2.2.1, r1p0.2.1.2.2.2.2.2.2.2.2.2.2.2.2.2.1, r1p0.2.1.2.2.2.2.2.2.2.2.2.2.2.2.2.2.1, r1p0.2.1.2.2.2.2.2.2.2.2.2.2.2.2.2.2.2.1, r1p0.2.1.2.2.2.2.2.2.2.2.2.2.2.2.2.2.2.2)) ((r1p0.2.2.1.1, r1p0.2.2.1.2.1, r1p0.2.2.1.2.2.1, r1p0.2.2.1.2.2.2)) ((r1p0.2.2.2.1.1, r1p0.2.2.2.1.2.1, r1p0.2.2.2.1.2.2.1, r1p0.2.2.2.1.2.2.2)) r1p0.2.2.2.2.1 ((r1p0.2.2.2.2.2.1.1, r1p0.2.2.2.2.2.1.2.1, r1p0.2.2.2.2.2.1.2.2.1, r1p0.2.2.2.2.2.1.2.2.2.1, r1p0.2.2.2.2.2.1.2.2.2.2.1, r1p0.2.2.2.2.2.1.2.2.2.2.2.1, r1p0.2.2.2.2.2.1.2.2.2.2.2.2)) r1p0.2.2.2.2.2.2.1 r1p0.2.2.2.2.2.2.2.1 r1p0.2.2.2.2.2.2.2.2.1 r1p0.2.2.2.2.2.2.2.2.2.1 r4.2.2 4).bind fun r6 => (lease_End.impl ((r1p0.2.1.1, r1p0.2.1.2.1, r1p0.2.1.2.2.1, r1p0.2.1.2.2.2.1, r1p0.2.1.2.2.2.2.1, r1p0.2.1.2.2.2.2.2.1, r1p0.2.1.2.2.2.2.2.2.1, r1p0.2.1.2.2.2.2.2.2.2.1, r1p0.2.1.2.2.2.2.2.2.2.2.1, r1p0.2.1.2.2.2.2.2.2.2.2.2.1, r1p0.2.1.2.2.2.2.2.2.2.2.2.2.1, r1p0.2.1.2.2.2.2.2.2.2.2.2.2.2.1, r1p0.2.1.2.2.2.2.2.2.2.2.2.2.2.2.1, r1p0.2.1.2.2.2.2.2.2.2.2.2.2.2.2.2.1, r1p0.2.1.2.2.2.2.2.2.2.2.2.2.2.2.2.2.1, r1p0.2.1.2.2.2.2.2.2.2.2.2.2.2.2.2.2.2.1, r1p0.2.1.2.2.2.2.2.2.2.2.2.2.2.2.2.2.2.2)) ((r1p0.2.2.1.1, r1p0.2.2.1.2.1, r1p0.2.2.1.2.2.1, r1p0.2.2.1.2.2.2)) ((r1p0.2.2.2.1.1, r1p0.2.2.2.1.2.1, r1p0.2.2.2.1.2.2.1, r1p0.2.2.2.1.2.2.2)) r1p0.2.2.2.2.1 ((r1p0.2.2.2.2.2.1.1, r1p0.2.2.2.2.2.1.2.1, r1p0.2.2.2.2.2.1.2.2.1, r1p0.2.2.2.2.2.1.2.2.2.1, r1p0.2.2.2.2.2.1.2.2.2.2.1, r1p0.2.2.2.2.2.1.2.2.2.2.2.1, r1p0.2.2.2.2.2.1.2.2.2.2.2.2)) r1p0.2.2.2.2.2.2.1 r1p0.2.2.2.2.2.2.2.1 r1p0.2.2.2.2.2.2.2.2.1 r1p0.2.2.2.2.2.2.2.2.2.1 r6.2.2 5).bind fun r7 => (lease_Now_nil0.impl ).bind fun r8 => (if ((decide (r2.1.1 = (-1)))) = true then (if ((decide (r2.2 = 0))) = true then (if r3.1 = true then (if ((decide (r3.2.1 = 0))) = true then (if r4.1 = true then some false else (if ((decide (r4.2.1 = 0))) = true then (if ((decide ((r5.1.1, r5.1.2.1, r5.1.2.2) = (2, 10, 5)))) = true then (if ((decide (r5.2 = 0))) = true then (if r6.1 = true then some false else (if ((decide (r6.2.1 = 0))) = true then (if r7.1 = true then (if ((decide (r7.2.1 = 0))) = true then (if ((decide (r8.2 = 1))) = true then (lease_Serves.impl 989 0 1000 10).bind fun r9 => (if r9 = true then (lease_Ended.impl 1010 0 1000 10).bind fun r10 => some (!r10) else some false) else some false) else some false) else some false) else some false)) else some false) else some false) else some false)) else some false) else some false) else some false) else some false)))
set_option maxRecDepth 100000 in
set_option maxHeartbeats 4000000 in
theorem law19_told.c {B : World} {hs : List MP} {w : World} (hS : St B (hs) w) {r : Bool} (hr : law19_told.impl  = some r) :
    Calls Try.prog 16 #[] w fun e w' => ∃ x : Unit, e = .returned (.bool r) ∧ St B (hs) w' := by
 unfold law19_told.impl at hr
 refine calls_T Try.func16 rfl rfl rfl hS ?_
 refine T.seq ?_
 refine T.region ?_
 refine T.assign .list rfl (wants0 rfl) rfl rfl ?_
 refine T.nil ?_
 refine T.then_normal ?_
 refine T.seq ?_
 refine T.region ?_
 obtain ⟨r1, hg1, hr⟩ := inv_bind hr
 rcases r1 with ⟨_ | r1p0, r1p1⟩
 ·dsimp only at hr
  refine T.call (v := fun (x1 : (Nat) × (Nat) × (Nat) × (Nat) × (Nat) × (Nat) × (Nat) × (Option Addr × Nat) × (Nat) × (Nat) × (Option Addr × Nat)) => .tuple #[.pointer none, .pointer none]) (hs' := fun x1 => hs) .list (wants0 rfl) rfl (run_callF (vs := []) rfl Try.func7 rfl (by decide) rfl) (fun w hS => law13_New.c hS  hg1) (fun x1 => ?_)
  refine T.move .list rfl (wants0 rfl) rfl rfl ?_
  refine T.extract .list rfl (wants0 rfl) rfl rfl rfl ?_
  refine T.extract .list rfl (wants0 rfl) rfl rfl rfl ?_
  refine T.assign .list rfl (wants0 rfl) rfl rfl ?_
  refine T.assign .list rfl (wants0 rfl) rfl rfl ?_
  refine T.nil ?_
  refine T.then_normal ?_
  refine T.seq ?_
  refine T.seq ?_
  refine T.region ?_
  refine T.move .list rfl (wants0 rfl) rfl rfl ?_
  refine T.ptrEq (pt := 88) .list rfl (wants0 rfl) rfl rfl rfl (by kernel_rfl) (.inr rfl) rfl ?_
  refine T.nil ?_
  refine T.then_normal ?_
  refine T.condT rfl rfl ?_
  refine T.seq ?_
  refine T.region ?_
  refine T.assign .list rfl (wants0 rfl) rfl rfl ?_
  refine T.nil ?_
  refine T.then_normal ?_
  refine T.ret ?_
  refine T.then_ret ?_
  obtain rfl := inv_some hr
  refine T.pick [] 0 rfl rfl (Nat.le_add_left _ _) rfl ?_
  refine T.ret1 rfl rfl (fun w hS => ⟨(), rfl, hS⟩)
 ·dsimp only at hr
  refine T.call (v := fun (x2 : (Nat) × (Nat) × (Nat) × (Nat) × (Nat) × (Nat) × (Nat) × (Option Addr × Nat) × (Nat) × (Nat) × (Option Addr × Nat)) => .tuple #[.pointer (some ⟨x2.1, 0, none⟩), .pointer (some ⟨x2.2.1, 0, none⟩)]) (hs' := fun x2 => Cl x2.1 88 [.pointer (some ⟨x2.2.1, 0, none⟩), .slice x2.2.2.2.2.2.2.2.2.2.2.1 r1p0.2.2.2.2.2.2.2.2.2.2.length x2.2.2.2.2.2.2.2.2.2.2.2] :: Cl x2.2.1 80 [.pointer (some ⟨x2.2.2.1, 0, none⟩), .int .i64 r1p0.2.1.1, .int .i64 r1p0.2.1.2.1, .int .i64 r1p0.2.1.2.2.1, .int .i64 r1p0.2.1.2.2.2.1, .int .i64 r1p0.2.1.2.2.2.2.1, .int .i64 r1p0.2.1.2.2.2.2.2.1, .int .i64 r1p0.2.1.2.2.2.2.2.2.1, .int .i64 r1p0.2.1.2.2.2.2.2.2.2.1, .int .i64 r1p0.2.1.2.2.2.2.2.2.2.2.1, .int .i64 r1p0.2.1.2.2.2.2.2.2.2.2.2.1, .int .i64 r1p0.2.1.2.2.2.2.2.2.2.2.2.2.1, .int .i64 r1p0.2.1.2.2.2.2.2.2.2.2.2.2.2.1, .int .i64 r1p0.2.1.2.2.2.2.2.2.2.2.2.2.2.2.1, .int .i64 r1p0.2.1.2.2.2.2.2.2.2.2.2.2.2.2.2.1, .int .i64 r1p0.2.1.2.2.2.2.2.2.2.2.2.2.2.2.2.2.1, .int .i64 r1p0.2.1.2.2.2.2.2.2.2.2.2.2.2.2.2.2.2.1, .int .i64 r1p0.2.1.2.2.2.2.2.2.2.2.2.2.2.2.2.2.2.2] :: Cl x2.2.2.1 103 [.pointer (some ⟨x2.2.2.2.1, 0, none⟩), .nilIface, .int .i64 r1p0.2.2.1.1, .int .i64 r1p0.2.2.1.2.1, .nilIface, .int .i64 r1p0.2.2.1.2.2.1, .int .i64 r1p0.2.2.1.2.2.2, .map (some x2.2.2.2.2.2.2.2.2.1), .slice none 0 0, .slice none 0 0, .map (some x2.2.2.2.2.2.2.2.2.2.1)] :: Cl x2.2.2.2.1 124 [.int .i64 r1p0.2.2.2.1.1, .map (some x2.2.2.2.2.1), .pointer (some ⟨x2.2.2.2.2.2.1, 0, none⟩), .int .i64 r1p0.2.2.2.1.2.1, .int .u64 r1p0.2.2.2.1.2.2.1, .int .i64 r1p0.2.2.2.1.2.2.2] :: Mp E64 x2.2.2.2.2.1 r1p0.2.2.2.2.1 :: Cl x2.2.2.2.2.2.1 74 [.int .i64 r1p0.2.2.2.2.2.1.1, .map (some x2.2.2.2.2.2.2.1), .slice x2.2.2.2.2.2.2.2.1.1 r1p0.2.2.2.2.2.2.2.1.length x2.2.2.2.2.2.2.2.1.2, .bool r1p0.2.2.2.2.2.1.2.1, .int .i64 r1p0.2.2.2.2.2.1.2.2.1, .int .i64 r1p0.2.2.2.2.2.1.2.2.2.1, .int .u64 r1p0.2.2.2.2.2.1.2.2.2.2.1, .int .i64 r1p0.2.2.2.2.2.1.2.2.2.2.2.1, .int .i64 r1p0.2.2.2.2.2.1.2.2.2.2.2.2] :: Mp (Elt.slice E8) x2.2.2.2.2.2.2.1 r1p0.2.2.2.2.2.2.1 :: Bf (Elt.pair E64 (Elt.slice E8)) 147 x2.2.2.2.2.2.2.2.1.1 x2.2.2.2.2.2.2.2.1.2 r1p0.2.2.2.2.2.2.2.1 :: Mp E64 x2.2.2.2.2.2.2.2.2.1 r1p0.2.2.2.2.2.2.2.2.1 :: Mp E64 x2.2.2.2.2.2.2.2.2.2.1 r1p0.2.2.2.2.2.2.2.2.2.1 :: Bf (Elt.pair (Elt.pair E64 (Elt.pair (Elt.slice E8) (Elt.slice E8))) EBool) 91 x2.2.2.2.2.2.2.2.2.2.2.1 x2.2.2.2.2.2.2.2.2.2.2.2 r1p0.2.2.2.2.2.2.2.2.2.2 :: hs) .list (wants0 rfl) rfl (run_callF (vs := []) rfl Try.func7 rfl (by decide) rfl) (fun w hS => law13_New.c hS  hg1) (fun x2 => ?_)
  refine T.move .list rfl (wants0 rfl) rfl rfl ?_
  refine T.extract .list rfl (wants0 rfl) rfl rfl rfl ?_
  refine T.extract .list rfl (wants0 rfl) rfl rfl rfl ?_
  refine T.assign .list rfl (wants0 rfl) rfl rfl ?_
  refine T.assign .list rfl (wants0 rfl) rfl rfl ?_
  refine T.nil ?_
  refine T.then_normal ?_
  refine T.seq ?_
  refine T.seq ?_
  refine T.region ?_
  refine T.move .list rfl (wants0 rfl) rfl rfl ?_
  refine T.ptrEq (pt := 88) .list rfl (wants0 rfl) rfl rfl rfl (by kernel_rfl) (.inr rfl) rfl ?_
  refine T.nil ?_
  refine T.then_normal ?_
  refine T.condF rfl rfl ?_
  refine T.skip ?_
  refine T.then_normal ?_
  refine T.seq ?_
  refine T.region ?_
  refine T.move .list rfl (wants0 rfl) rfl rfl ?_
  refine T.pick [0, 1, 2, 3, 4, 5, 6, 7, 8, 9, 10] 11 rfl rfl (Nat.le_add_left _ _) (hs' := Cl x2.1 88 [.pointer (some ⟨x2.2.1, 0, none⟩), .slice x2.2.2.2.2.2.2.2.2.2.2.1 r1p0.2.2.2.2.2.2.2.2.2.2.length x2.2.2.2.2.2.2.2.2.2.2.2] :: Cl x2.2.1 80 [.pointer (some ⟨x2.2.2.1, 0, none⟩), .int .i64 r1p0.2.1.1, .int .i64 r1p0.2.1.2.1, .int .i64 r1p0.2.1.2.2.1, .int .i64 r1p0.2.1.2.2.2.1, .int .i64 r1p0.2.1.2.2.2.2.1, .int .i64 r1p0.2.1.2.2.2.2.2.1, .int .i64 r1p0.2.1.2.2.2.2.2.2.1, .int .i64 r1p0.2.1.2.2.2.2.2.2.2.1, .int .i64 r1p0.2.1.2.2.2.2.2.2.2.2.1, .int .i64 r1p0.2.1.2.2.2.2.2.2.2.2.2.1, .int .i64 r1p0.2.1.2.2.2.2.2.2.2.2.2.2.1, .int .i64 r1p0.2.1.2.2.2.2.2.2.2.2.2.2.2.1, .int .i64 r1p0.2.1.2.2.2.2.2.2.2.2.2.2.2.2.1, .int .i64 r1p0.2.1.2.2.2.2.2.2.2.2.2.2.2.2.2.1, .int .i64 r1p0.2.1.2.2.2.2.2.2.2.2.2.2.2.2.2.2.1, .int .i64 r1p0.2.1.2.2.2.2.2.2.2.2.2.2.2.2.2.2.2.1, .int .i64 r1p0.2.1.2.2.2.2.2.2.2.2.2.2.2.2.2.2.2.2] :: Cl x2.2.2.1 103 [.pointer (some ⟨x2.2.2.2.1, 0, none⟩), .nilIface, .int .i64 r1p0.2.2.1.1, .int .i64 r1p0.2.2.1.2.1, .nilIface, .int .i64 r1p0.2.2.1.2.2.1, .int .i64 r1p0.2.2.1.2.2.2, .map (some x2.2.2.2.2.2.2.2.2.1), .slice none 0 0, .slice none 0 0, .map (some x2.2.2.2.2.2.2.2.2.2.1)] :: Cl x2.2.2.2.1 124 [.int .i64 r1p0.2.2.2.1.1, .map (some x2.2.2.2.2.1), .pointer (some ⟨x2.2.2.2.2.2.1, 0, none⟩), .int .i64 r1p0.2.2.2.1.2.1, .int .u64 r1p0.2.2.2.1.2.2.1, .int .i64 r1p0.2.2.2.1.2.2.2] :: Mp E64 x2.2.2.2.2.1 r1p0.2.2.2.2.1 :: Cl x2.2.2.2.2.2.1 74 [.int .i64 r1p0.2.2.2.2.2.1.1, .map (some x2.2.2.2.2.2.2.1), .slice x2.2.2.2.2.2.2.2.1.1 r1p0.2.2.2.2.2.2.2.1.length x2.2.2.2.2.2.2.2.1.2, .bool r1p0.2.2.2.2.2.1.2.1, .int .i64 r1p0.2.2.2.2.2.1.2.2.1, .int .i64 r1p0.2.2.2.2.2.1.2.2.2.1, .int .u64 r1p0.2.2.2.2.2.1.2.2.2.2.1, .int .i64 r1p0.2.2.2.2.2.1.2.2.2.2.2.1, .int .i64 r1p0.2.2.2.2.2.1.2.2.2.2.2.2] :: Mp (Elt.slice E8) x2.2.2.2.2.2.2.1 r1p0.2.2.2.2.2.2.1 :: Bf (Elt.pair E64 (Elt.slice E8)) 147 x2.2.2.2.2.2.2.2.1.1 x2.2.2.2.2.2.2.2.1.2 r1p0.2.2.2.2.2.2.2.1 :: Mp E64 x2.2.2.2.2.2.2.2.2.1 r1p0.2.2.2.2.2.2.2.2.1 :: Mp E64 x2.2.2.2.2.2.2.2.2.2.1 r1p0.2.2.2.2.2.2.2.2.2.1 :: Bf (Elt.pair (Elt.pair E64 (Elt.pair (Elt.slice E8) (Elt.slice E8))) EBool) 91 x2.2.2.2.2.2.2.2.2.2.2.1 x2.2.2.2.2.2.2.2.2.2.2.2 r1p0.2.2.2.2.2.2.2.2.2.2 :: hs) rfl ?_
  obtain ⟨r2, hg2, hr⟩ := inv_bind hr
  refine T.call .list (wants0 rfl) rfl (run_callF (vs := [_]) rfl Try.func13 rfl (by decide) rfl) (fun w hS => lease_Now.c hS (o0a := (r1p0.2.1.1, r1p0.2.1.2.1, r1p0.2.1.2.2.1, r1p0.2.1.2.2.2.1, r1p0.2.1.2.2.2.2.1, r1p0.2.1.2.2.2.2.2.1, r1p0.2.1.2.2.2.2.2.2.1, r1p0.2.1.2.2.2.2.2.2.2.1, r1p0.2.1.2.2.2.2.2.2.2.2.1, r1p0.2.1.2.2.2.2.2.2.2.2.2.1, r1p0.2.1.2.2.2.2.2.2.2.2.2.2.1, r1p0.2.1.2.2.2.2.2.2.2.2.2.2.2.1, r1p0.2.1.2.2.2.2.2.2.2.2.2.2.2.2.1, r1p0.2.1.2.2.2.2.2.2.2.2.2.2.2.2.2.1, r1p0.2.1.2.2.2.2.2.2.2.2.2.2.2.2.2.2.1, r1p0.2.1.2.2.2.2.2.2.2.2.2.2.2.2.2.2.2.1, r1p0.2.1.2.2.2.2.2.2.2.2.2.2.2.2.2.2.2.2)) (o0aa := (r1p0.2.2.1.1, r1p0.2.2.1.2.1, r1p0.2.2.1.2.2.1, r1p0.2.2.1.2.2.2)) (o0aaa := (r1p0.2.2.2.1.1, r1p0.2.2.2.1.2.1, r1p0.2.2.2.1.2.2.1, r1p0.2.2.2.1.2.2.2)) (q0aaab := r1p0.2.2.2.2.1) (o0aaac := (r1p0.2.2.2.2.2.1.1, r1p0.2.2.2.2.2.1.2.1, r1p0.2.2.2.2.2.1.2.2.1, r1p0.2.2.2.2.2.1.2.2.2.1, r1p0.2.2.2.2.2.1.2.2.2.2.1, r1p0.2.2.2.2.2.1.2.2.2.2.2.1, r1p0.2.2.2.2.2.1.2.2.2.2.2.2)) (q0aaacb := r1p0.2.2.2.2.2.2.1) (q0aaacc := r1p0.2.2.2.2.2.2.2.1) (q0aah := r1p0.2.2.2.2.2.2.2.2.1) (q0aak := r1p0.2.2.2.2.2.2.2.2.2.1) (q0b := r1p0.2.2.2.2.2.2.2.2.2.2)  hg2) (fun x3 => ?_)
  refine T.move .list rfl (wants0 rfl) rfl rfl ?_
  refine T.extract .list rfl (wants0 rfl) rfl rfl rfl ?_
  refine T.extract .list rfl (wants0 rfl) rfl rfl rfl ?_
  refine T.allocS .list rfl (wants0 rfl) rfl (cs := [.int .i64 0, .int .i64 0, .int .i64 0]) rfl (fun b1 => ?_)
  refine T.store .list 0 rfl rfl (wants0 rfl) rfl rfl rfl rfl (Nat.le_of_ble_eq_true rfl) rfl (cs' := [.int .i64 r2.1.1, .int .i64 r2.1.2.1, .int .i64 r2.1.2.2]) rfl rfl ?_
  refine T.assign .list rfl (wants0 rfl) rfl rfl ?_
  refine T.nil ?_
  refine T.then_normal ?_
  refine T.seq ?_
  refine T.region ?_
  refine T.move .list rfl (wants0 rfl) rfl rfl ?_
  refine T.pick [1, 2, 3, 4, 5, 6, 7, 8, 9, 10, 11, 0] 12 rfl rfl (Nat.le_add_left _ _) (hs' := Cl x2.1 88 [.pointer (some ⟨x2.2.1, 0, none⟩), .slice x2.2.2.2.2.2.2.2.2.2.2.1 r1p0.2.2.2.2.2.2.2.2.2.2.length x2.2.2.2.2.2.2.2.2.2.2.2] :: Cl x2.2.1 80 [.pointer (some ⟨x2.2.2.1, 0, none⟩), .int .i64 r1p0.2.1.1, .int .i64 r1p0.2.1.2.1, .int .i64 r1p0.2.1.2.2.1, .int .i64 r1p0.2.1.2.2.2.1, .int .i64 r1p0.2.1.2.2.2.2.1, .int .i64 r1p0.2.1.2.2.2.2.2.1, .int .i64 r1p0.2.1.2.2.2.2.2.2.1, .int .i64 r1p0.2.1.2.2.2.2.2.2.2.1, .int .i64 r1p0.2.1.2.2.2.2.2.2.2.2.1, .int .i64 r1p0.2.1.2.2.2.2.2.2.2.2.2.1, .int .i64 r1p0.2.1.2.2.2.2.2.2.2.2.2.2.1, .int .i64 r1p0.2.1.2.2.2.2.2.2.2.2.2.2.2.1, .int .i64 r1p0.2.1.2.2.2.2.2.2.2.2.2.2.2.2.1, .int .i64 r1p0.2.1.2.2.2.2.2.2.2.2.2.2.2.2.2.1, .int .i64 r1p0.2.1.2.2.2.2.2.2.2.2.2.2.2.2.2.2.1, .int .i64 r1p0.2.1.2.2.2.2.2.2.2.2.2.2.2.2.2.2.2.1, .int .i64 r1p0.2.1.2.2.2.2.2.2.2.2.2.2.2.2.2.2.2.2] :: Cl x2.2.2.1 103 [.pointer (some ⟨x2.2.2.2.1, 0, none⟩), .nilIface, .int .i64 r1p0.2.2.1.1, .int .i64 r1p0.2.2.1.2.1, .nilIface, .int .i64 r1p0.2.2.1.2.2.1, .int .i64 r1p0.2.2.1.2.2.2, .map (some x2.2.2.2.2.2.2.2.2.1), .slice none 0 0, .slice none 0 0, .map (some x2.2.2.2.2.2.2.2.2.2.1)] :: Cl x2.2.2.2.1 124 [.int .i64 r1p0.2.2.2.1.1, .map (some x2.2.2.2.2.1), .pointer (some ⟨x2.2.2.2.2.2.1, 0, none⟩), .int .i64 r1p0.2.2.2.1.2.1, .int .u64 r1p0.2.2.2.1.2.2.1, .int .i64 r1p0.2.2.2.1.2.2.2] :: Mp E64 x2.2.2.2.2.1 r1p0.2.2.2.2.1 :: Cl x2.2.2.2.2.2.1 74 [.int .i64 r1p0.2.2.2.2.2.1.1, .map (some x2.2.2.2.2.2.2.1), .slice x2.2.2.2.2.2.2.2.1.1 r1p0.2.2.2.2.2.2.2.1.length x2.2.2.2.2.2.2.2.1.2, .bool r1p0.2.2.2.2.2.1.2.1, .int .i64 r1p0.2.2.2.2.2.1.2.2.1, .int .i64 r1p0.2.2.2.2.2.1.2.2.2.1, .int .u64 r1p0.2.2.2.2.2.1.2.2.2.2.1, .int .i64 r1p0.2.2.2.2.2.1.2.2.2.2.2.1, .int .i64 r1p0.2.2.2.2.2.1.2.2.2.2.2.2] :: Mp (Elt.slice E8) x2.2.2.2.2.2.2.1 r1p0.2.2.2.2.2.2.1 :: Bf (Elt.pair E64 (Elt.slice E8)) 147 x2.2.2.2.2.2.2.2.1.1 x2.2.2.2.2.2.2.2.1.2 r1p0.2.2.2.2.2.2.2.1 :: Mp E64 x2.2.2.2.2.2.2.2.2.1 r1p0.2.2.2.2.2.2.2.2.1 :: Mp E64 x2.2.2.2.2.2.2.2.2.2.1 r1p0.2.2.2.2.2.2.2.2.2.1 :: Bf (Elt.pair (Elt.pair E64 (Elt.pair (Elt.slice E8) (Elt.slice E8))) EBool) 91 x2.2.2.2.2.2.2.2.2.2.2.1 x2.2.2.2.2.2.2.2.2.2.2.2 r1p0.2.2.2.2.2.2.2.2.2.2 :: Cl b1 28 [.int .i64 r2.1.1, .int .i64 r2.1.2.1, .int .i64 r2.1.2.2] :: hs) rfl ?_
  obtain ⟨r3, hg3, hr⟩ := inv_bind hr
  refine T.call .list (wants0 rfl) rfl (run_callF (vs := [_, _, _, _]) rfl Try.func9 rfl (by decide) rfl) (fun w hS => lease_Grant.c hS (o0a := (r1p0.2.1.1, r1p0.2.1.2.1, r1p0.2.1.2.2.1, r1p0.2.1.2.2.2.1, r1p0.2.1.2.2.2.2.1, r1p0.2.1.2.2.2.2.2.1, r1p0.2.1.2.2.2.2.2.2.1, r1p0.2.1.2.2.2.2.2.2.2.1, r1p0.2.1.2.2.2.2.2.2.2.2.1, r1p0.2.1.2.2.2.2.2.2.2.2.2.1, r1p0.2.1.2.2.2.2.2.2.2.2.2.2.1, r1p0.2.1.2.2.2.2.2.2.2.2.2.2.2.1, r1p0.2.1.2.2.2.2.2.2.2.2.2.2.2.2.1, r1p0.2.1.2.2.2.2.2.2.2.2.2.2.2.2.2.1, r1p0.2.1.2.2.2.2.2.2.2.2.2.2.2.2.2.2.1, r1p0.2.1.2.2.2.2.2.2.2.2.2.2.2.2.2.2.2.1, r1p0.2.1.2.2.2.2.2.2.2.2.2.2.2.2.2.2.2.2)) (o0aa := (r1p0.2.2.1.1, r1p0.2.2.1.2.1, r1p0.2.2.1.2.2.1, r1p0.2.2.1.2.2.2)) (o0aaa := (r1p0.2.2.2.1.1, r1p0.2.2.2.1.2.1, r1p0.2.2.2.1.2.2.1, r1p0.2.2.2.1.2.2.2)) (q0aaab := r1p0.2.2.2.2.1) (o0aaac := (r1p0.2.2.2.2.2.1.1, r1p0.2.2.2.2.2.1.2.1, r1p0.2.2.2.2.2.1.2.2.1, r1p0.2.2.2.2.2.1.2.2.2.1, r1p0.2.2.2.2.2.1.2.2.2.2.1, r1p0.2.2.2.2.2.1.2.2.2.2.2.1, r1p0.2.2.2.2.2.1.2.2.2.2.2.2)) (q0aaacb := r1p0.2.2.2.2.2.2.1) (q0aaacc := r1p0.2.2.2.2.2.2.2.1) (q0aah := r1p0.2.2.2.2.2.2.2.2.1) (q0aak := r1p0.2.2.2.2.2.2.2.2.2.1) (q0b := r1p0.2.2.2.2.2.2.2.2.2.2)  hg3) (fun x4 => ?_)
  refine T.move .list rfl (wants0 rfl) rfl rfl ?_
  refine T.extract .list rfl (wants0 rfl) rfl rfl rfl ?_
  refine T.extract .list rfl (wants0 rfl) rfl rfl rfl ?_
  refine T.assign .list rfl (wants0 rfl) rfl rfl ?_
  refine T.assign .list rfl (wants0 rfl) rfl rfl ?_
  refine T.nil ?_
  refine T.then_normal ?_
  refine T.seq ?_
  refine T.region ?_
  refine T.move .list rfl (wants0 rfl) rfl rfl ?_
  refine T.pick [0, 1, 2, 3, 4, 5, 6, 7, 8, 9, 10, 11] 12 rfl rfl (Nat.le_add_left _ _) (hs' := Cl x2.1 88 [.pointer (some ⟨x2.2.1, 0, none⟩), .slice x4.1 r3.2.2.length x4.2] :: Cl x2.2.1 80 [.pointer (some ⟨x2.2.2.1, 0, none⟩), .int .i64 r1p0.2.1.1, .int .i64 r1p0.2.1.2.1, .int .i64 r1p0.2.1.2.2.1, .int .i64 r1p0.2.1.2.2.2.1, .int .i64 r1p0.2.1.2.2.2.2.1, .int .i64 r1p0.2.1.2.2.2.2.2.1, .int .i64 r1p0.2.1.2.2.2.2.2.2.1, .int .i64 r1p0.2.1.2.2.2.2.2.2.2.1, .int .i64 r1p0.2.1.2.2.2.2.2.2.2.2.1, .int .i64 r1p0.2.1.2.2.2.2.2.2.2.2.2.1, .int .i64 r1p0.2.1.2.2.2.2.2.2.2.2.2.2.1, .int .i64 r1p0.2.1.2.2.2.2.2.2.2.2.2.2.2.1, .int .i64 r1p0.2.1.2.2.2.2.2.2.2.2.2.2.2.2.1, .int .i64 r1p0.2.1.2.2.2.2.2.2.2.2.2.2.2.2.2.1, .int .i64 r1p0.2.1.2.2.2.2.2.2.2.2.2.2.2.2.2.2.1, .int .i64 r1p0.2.1.2.2.2.2.2.2.2.2.2.2.2.2.2.2.2.1, .int .i64 r1p0.2.1.2.2.2.2.2.2.2.2.2.2.2.2.2.2.2.2] :: Cl x2.2.2.1 103 [.pointer (some ⟨x2.2.2.2.1, 0, none⟩), .nilIface, .int .i64 r1p0.2.2.1.1, .int .i64 r1p0.2.2.1.2.1, .nilIface, .int .i64 r1p0.2.2.1.2.2.1, .int .i64 r1p0.2.2.1.2.2.2, .map (some x2.2.2.2.2.2.2.2.2.1), .slice none 0 0, .slice none 0 0, .map (some x2.2.2.2.2.2.2.2.2.2.1)] :: Cl x2.2.2.2.1 124 [.int .i64 r1p0.2.2.2.1.1, .map (some x2.2.2.2.2.1), .pointer (some ⟨x2.2.2.2.2.2.1, 0, none⟩), .int .i64 r1p0.2.2.2.1.2.1, .int .u64 r1p0.2.2.2.1.2.2.1, .int .i64 r1p0.2.2.2.1.2.2.2] :: Mp E64 x2.2.2.2.2.1 r1p0.2.2.2.2.1 :: Cl x2.2.2.2.2.2.1 74 [.int .i64 r1p0.2.2.2.2.2.1.1, .map (some x2.2.2.2.2.2.2.1), .slice x2.2.2.2.2.2.2.2.1.1 r1p0.2.2.2.2.2.2.2.1.length x2.2.2.2.2.2.2.2.1.2, .bool r1p0.2.2.2.2.2.1.2.1, .int .i64 r1p0.2.2.2.2.2.1.2.2.1, .int .i64 r1p0.2.2.2.2.2.1.2.2.2.1, .int .u64 r1p0.2.2.2.2.2.1.2.2.2.2.1, .int .i64 r1p0.2.2.2.2.2.1.2.2.2.2.2.1, .int .i64 r1p0.2.2.2.2.2.1.2.2.2.2.2.2] :: Mp (Elt.slice E8) x2.2.2.2.2.2.2.1 r1p0.2.2.2.2.2.2.1 :: Bf (Elt.pair E64 (Elt.slice E8)) 147 x2.2.2.2.2.2.2.2.1.1 x2.2.2.2.2.2.2.2.1.2 r1p0.2.2.2.2.2.2.2.1 :: Mp E64 x2.2.2.2.2.2.2.2.2.1 r1p0.2.2.2.2.2.2.2.2.1 :: Mp E64 x2.2.2.2.2.2.2.2.2.2.1 r1p0.2.2.2.2.2.2.2.2.2.1 :: Bf (Elt.pair (Elt.pair E64 (Elt.pair (Elt.slice E8) (Elt.slice E8))) EBool) 91 x4.1 x4.2 r3.2.2 :: Cl b1 28 [.int .i64 r2.1.1, .int .i64 r2.1.2.1, .int .i64 r2.1.2.2] :: hs) rfl ?_
  obtain ⟨r4, hg4, hr⟩ := inv_bind hr
  refine T.call .list (wants0 rfl) rfl (run_callF (vs := [_, _, _, _]) rfl Try.func9 rfl (by decide) rfl) (fun w hS => lease_Grant.c hS (o0a := (r1p0.2.1.1, r1p0.2.1.2.1, r1p0.2.1.2.2.1, r1p0.2.1.2.2.2.1, r1p0.2.1.2.2.2.2.1, r1p0.2.1.2.2.2.2.2.1, r1p0.2.1.2.2.2.2.2.2.1, r1p0.2.1.2.2.2.2.2.2.2.1, r1p0.2.1.2.2.2.2.2.2.2.2.1, r1p0.2.1.2.2.2.2.2.2.2.2.2.1, r1p0.2.1.2.2.2.2.2.2.2.2.2.2.1, r1p0.2.1.2.2.2.2.2.2.2.2.2.2.2.1, r1p0.2.1.2.2.2.2.2.2.2.2.2.2.2.2.1, r1p0.2.1.2.2.2.2.2.2.2.2.2.2.2.2.2.1, r1p0.2.1.2.2.2.2.2.2.2.2.2.2.2.2.2.2.1, r1p0.2.1.2.2.2.2.2.2.2.2.2.2.2.2.2.2.2.1, r1p0.2.1.2.2.2.2.2.2.2.2.2.2.2.2.2.2.2.2)) (o0aa := (r1p0.2.2.1.1, r1p0.2.2.1.2.1, r1p0.2.2.1.2.2.1, r1p0.2.2.1.2.2.2)) (o0aaa := (r1p0.2.2.2.1.1, r1p0.2.2.2.1.2.1, r1p0.2.2.2.1.2.2.1, r1p0.2.2.2.1.2.2.2)) (q0aaab := r1p0.2.2.2.2.1) (o0aaac := (r1p0.2.2.2.2.2.1.1, r1p0.2.2.2.2.2.1.2.1, r1p0.2.2.2.2.2.1.2.2.1, r1p0.2.2.2.2.2.1.2.2.2.1, r1p0.2.2.2.2.2.1.2.2.2.2.1, r1p0.2.2.2.2.2.1.2.2.2.2.2.1, r1p0.2.2.2.2.2.1.2.2.2.2.2.2)) (q0aaacb := r1p0.2.2.2.2.2.2.1) (q0aaacc := r1p0.2.2.2.2.2.2.2.1) (q0aah := r1p0.2.2.2.2.2.2.2.2.1) (q0aak := r1p0.2.2.2.2.2.2.2.2.2.1) (q0b := r3.2.2)  hg4) (fun x5 => ?_)
  refine T.move .list rfl (wants0 rfl) rfl rfl ?_
  refine T.extract .list rfl (wants0 rfl) rfl rfl rfl ?_
  refine T.extract .list rfl (wants0 rfl) rfl rfl rfl ?_
  refine T.assign .list rfl (wants0 rfl) rfl rfl ?_
  refine T.assign .list rfl (wants0 rfl) rfl rfl ?_
  refine T.nil ?_
  refine T.then_normal ?_
  refine T.seq ?_
  refine T.region ?_
  refine T.move .list rfl (wants0 rfl) rfl rfl ?_
  refine T.pick [0, 1, 2, 3, 4, 5, 6, 7, 8, 9, 10, 11] 12 rfl rfl (Nat.le_add_left _ _) (hs' := Cl x2.1 88 [.pointer (some ⟨x2.2.1, 0, none⟩), .slice x5.1 r4.2.2.length x5.2] :: Cl x2.2.1 80 [.pointer (some ⟨x2.2.2.1, 0, none⟩), .int .i64 r1p0.2.1.1, .int .i64 r1p0.2.1.2.1, .int .i64 r1p0.2.1.2.2.1, .int .i64 r1p0.2.1.2.2.2.1, .int .i64 r1p0.2.1.2.2.2.2.1, .int .i64 r1p0.2.1.2.2.2.2.2.1, .int .i64 r1p0.2.1.2.2.2.2.2.2.1, .int .i64 r1p0.2.1.2.2.2.2.2.2.2.1, .int .i64 r1p0.2.1.2.2.2.2.2.2.2.2.1, .int .i64 r1p0.2.1.2.2.2.2.2.2.2.2.2.1, .int .i64 r1p0.2.1.2.2.2.2.2.2.2.2.2.2.1, .int .i64 r1p0.2.1.2.2.2.2.2.2.2.2.2.2.2.1, .int .i64 r1p0.2.1.2.2.2.2.2.2.2.2.2.2.2.2.1, .int .i64 r1p0.2.1.2.2.2.2.2.2.2.2.2.2.2.2.2.1, .int .i64 r1p0.2.1.2.2.2.2.2.2.2.2.2.2.2.2.2.2.1, .int .i64 r1p0.2.1.2.2.2.2.2.2.2.2.2.2.2.2.2.2.2.1, .int .i64 r1p0.2.1.2.2.2.2.2.2.2.2.2.2.2.2.2.2.2.2] :: Cl x2.2.2.1 103 [.pointer (some ⟨x2.2.2.2.1, 0, none⟩), .nilIface, .int .i64 r1p0.2.2.1.1, .int .i64 r1p0.2.2.1.2.1, .nilIface, .int .i64 r1p0.2.2.1.2.2.1, .int .i64 r1p0.2.2.1.2.2.2, .map (some x2.2.2.2.2.2.2.2.2.1), .slice none 0 0, .slice none 0 0, .map (some x2.2.2.2.2.2.2.2.2.2.1)] :: Cl x2.2.2.2.1 124 [.int .i64 r1p0.2.2.2.1.1, .map (some x2.2.2.2.2.1), .pointer (some ⟨x2.2.2.2.2.2.1, 0, none⟩), .int .i64 r1p0.2.2.2.1.2.1, .int .u64 r1p0.2.2.2.1.2.2.1, .int .i64 r1p0.2.2.2.1.2.2.2] :: Mp E64 x2.2.2.2.2.1 r1p0.2.2.2.2.1 :: Cl x2.2.2.2.2.2.1 74 [.int .i64 r1p0.2.2.2.2.2.1.1, .map (some x2.2.2.2.2.2.2.1), .slice x2.2.2.2.2.2.2.2.1.1 r1p0.2.2.2.2.2.2.2.1.length x2.2.2.2.2.2.2.2.1.2, .bool r1p0.2.2.2.2.2.1.2.1, .int .i64 r1p0.2.2.2.2.2.1.2.2.1, .int .i64 r1p0.2.2.2.2.2.1.2.2.2.1, .int .u64 r1p0.2.2.2.2.2.1.2.2.2.2.1, .int .i64 r1p0.2.2.2.2.2.1.2.2.2.2.2.1, .int .i64 r1p0.2.2.2.2.2.1.2.2.2.2.2.2] :: Mp (Elt.slice E8) x2.2.2.2.2.2.2.1 r1p0.2.2.2.2.2.2.1 :: Bf (Elt.pair E64 (Elt.slice E8)) 147 x2.2.2.2.2.2.2.2.1.1 x2.2.2.2.2.2.2.2.1.2 r1p0.2.2.2.2.2.2.2.1 :: Mp E64 x2.2.2.2.2.2.2.2.2.1 r1p0.2.2.2.2.2.2.2.2.1 :: Mp E64 x2.2.2.2.2.2.2.2.2.2.1 r1p0.2.2.2.2.2.2.2.2.2.1 :: Bf (Elt.pair (Elt.pair E64 (Elt.pair (Elt.slice E8) (Elt.slice E8))) EBool) 91 x5.1 x5.2 r4.2.2 :: Cl b1 28 [.int .i64 r2.1.1, .int .i64 r2.1.2.1, .int .i64 r2.1.2.2] :: hs) rfl ?_
  obtain ⟨r5, hg5, hr⟩ := inv_bind hr
  refine T.call .list (wants0 rfl) rfl (run_callF (vs := [_]) rfl Try.func13 rfl (by decide) rfl) (fun w hS => lease_Now.c hS (o0a := (r1p0.2.1.1, r1p0.2.1.2.1, r1p0.2.1.2.2.1, r1p0.2.1.2.2.2.1, r1p0.2.1.2.2.2.2.1, r1p0.2.1.2.2.2.2.2.1, r1p0.2.1.2.2.2.2.2.2.1, r1p0.2.1.2.2.2.2.2.2.2.1, r1p0.2.1.2.2.2.2.2.2.2.2.1, r1p0.2.1.2.2.2.2.2.2.2.2.2.1, r1p0.2.1.2.2.2.2.2.2.2.2.2.2.1, r1p0.2.1.2.2.2.2.2.2.2.2.2.2.2.1, r1p0.2.1.2.2.2.2.2.2.2.2.2.2.2.2.1, r1p0.2.1.2.2.2.2.2.2.2.2.2.2.2.2.2.1, r1p0.2.1.2.2.2.2.2.2.2.2.2.2.2.2.2.2.1, r1p0.2.1.2.2.2.2.2.2.2.2.2.2.2.2.2.2.2.1, r1p0.2.1.2.2.2.2.2.2.2.2.2.2.2.2.2.2.2.2)) (o0aa := (r1p0.2.2.1.1, r1p0.2.2.1.2.1, r1p0.2.2.1.2.2.1, r1p0.2.2.1.2.2.2)) (o0aaa := (r1p0.2.2.2.1.1, r1p0.2.2.2.1.2.1, r1p0.2.2.2.1.2.2.1, r1p0.2.2.2.1.2.2.2)) (q0aaab := r1p0.2.2.2.2.1) (o0aaac := (r1p0.2.2.2.2.2.1.1, r1p0.2.2.2.2.2.1.2.1, r1p0.2.2.2.2.2.1.2.2.1, r1p0.2.2.2.2.2.1.2.2.2.1, r1p0.2.2.2.2.2.1.2.2.2.2.1, r1p0.2.2.2.2.2.1.2.2.2.2.2.1, r1p0.2.2.2.2.2.1.2.2.2.2.2.2)) (q0aaacb := r1p0.2.2.2.2.2.2.1) (q0aaacc := r1p0.2.2.2.2.2.2.2.1) (q0aah := r1p0.2.2.2.2.2.2.2.2.1) (q0aak := r1p0.2.2.2.2.2.2.2.2.2.1) (q0b := r4.2.2)  hg5) (fun x6 => ?_)
  refine T.move .list rfl (wants0 rfl) rfl rfl ?_
  refine T.extract .list rfl (wants0 rfl) rfl rfl rfl ?_
  refine T.extract .list rfl (wants0 rfl) rfl rfl rfl ?_
  refine T.allocS .list rfl (wants0 rfl) rfl (cs := [.int .i64 0, .int .i64 0, .int .i64 0]) rfl (fun b2 => ?_)
  refine T.store .list 0 rfl rfl (wants0 rfl) rfl rfl rfl rfl (Nat.le_of_ble_eq_true rfl) rfl (cs' := [.int .i64 r5.1.1, .int .i64 r5.1.2.1, .int .i64 r5.1.2.2]) rfl rfl ?_
  refine T.assign .list rfl (wants0 rfl) rfl rfl ?_
  refine T.nil ?_
  refine T.then_normal ?_
  refine T.seq ?_
  refine T.region ?_
  refine T.move .list rfl (wants0 rfl) rfl rfl ?_
  refine T.pick [1, 2, 3, 4, 5, 6, 7, 8, 9, 10, 11, 0, 12] 13 rfl rfl (Nat.le_add_left _ _) (hs' := Cl x2.1 88 [.pointer (some ⟨x2.2.1, 0, none⟩), .slice x5.1 r4.2.2.length x5.2] :: Cl x2.2.1 80 [.pointer (some ⟨x2.2.2.1, 0, none⟩), .int .i64 r1p0.2.1.1, .int .i64 r1p0.2.1.2.1, .int .i64 r1p0.2.1.2.2.1, .int .i64 r1p0.2.1.2.2.2.1, .int .i64 r1p0.2.1.2.2.2.2.1, .int .i64 r1p0.2.1.2.2.2.2.2.1, .int .i64 r1p0.2.1.2.2.2.2.2.2.1, .int .i64 r1p0.2.1.2.2.2.2.2.2.2.1, .int .i64 r1p0.2.1.2.2.2.2.2.2.2.2.1, .int .i64 r1p0.2.1.2.2.2.2.2.2.2.2.2.1, .int .i64 r1p0.2.1.2.2.2.2.2.2.2.2.2.2.1, .int .i64 r1p0.2.1.2.2.2.2.2.2.2.2.2.2.2.1, .int .i64 r1p0.2.1.2.2.2.2.2.2.2.2.2.2.2.2.1, .int .i64 r1p0.2.1.2.2.2.2.2.2.2.2.2.2.2.2.2.1, .int .i64 r1p0.2.1.2.2.2.2.2.2.2.2.2.2.2.2.2.2.1, .int .i64 r1p0.2.1.2.2.2.2.2.2.2.2.2.2.2.2.2.2.2.1, .int .i64 r1p0.2.1.2.2.2.2.2.2.2.2.2.2.2.2.2.2.2.2] :: Cl x2.2.2.1 103 [.pointer (some ⟨x2.2.2.2.1, 0, none⟩), .nilIface, .int .i64 r1p0.2.2.1.1, .int .i64 r1p0.2.2.1.2.1, .nilIface, .int .i64 r1p0.2.2.1.2.2.1, .int .i64 r1p0.2.2.1.2.2.2, .map (some x2.2.2.2.2.2.2.2.2.1), .slice none 0 0, .slice none 0 0, .map (some x2.2.2.2.2.2.2.2.2.2.1)] :: Cl x2.2.2.2.1 124 [.int .i64 r1p0.2.2.2.1.1, .map (some x2.2.2.2.2.1), .pointer (some ⟨x2.2.2.2.2.2.1, 0, none⟩), .int .i64 r1p0.2.2.2.1.2.1, .int .u64 r1p0.2.2.2.1.2.2.1, .int .i64 r1p0.2.2.2.1.2.2.2] :: Mp E64 x2.2.2.2.2.1 r1p0.2.2.2.2.1 :: Cl x2.2.2.2.2.2.1 74 [.int .i64 r1p0.2.2.2.2.2.1.1, .map (some x2.2.2.2.2.2.2.1), .slice x2.2.2.2.2.2.2.2.1.1 r1p0.2.2.2.2.2.2.2.1.length x2.2.2.2.2.2.2.2.1.2, .bool r1p0.2.2.2.2.2.1.2.1, .int .i64 r1p0.2.2.2.2.2.1.2.2.1, .int .i64 r1p0.2.2.2.2.2.1.2.2.2.1, .int .u64 r1p0.2.2.2.2.2.1.2.2.2.2.1, .int .i64 r1p0.2.2.2.2.2.1.2.2.2.2.2.1, .int .i64 r1p0.2.2.2.2.2.1.2.2.2.2.2.2] :: Mp (Elt.slice E8) x2.2.2.2.2.2.2.1 r1p0.2.2.2.2.2.2.1 :: Bf (Elt.pair E64 (Elt.slice E8)) 147 x2.2.2.2.2.2.2.2.1.1 x2.2.2.2.2.2.2.2.1.2 r1p0.2.2.2.2.2.2.2.1 :: Mp E64 x2.2.2.2.2.2.2.2.2.1 r1p0.2.2.2.2.2.2.2.2.1 :: Mp E64 x2.2.2.2.2.2.2.2.2.2.1 r1p0.2.2.2.2.2.2.2.2.2.1 :: Bf (Elt.pair (Elt.pair E64 (Elt.pair (Elt.slice E8) (Elt.slice E8))) EBool) 91 x5.1 x5.2 r4.2.2 :: Cl b2 28 [.int .i64 r5.1.1, .int .i64 r5.1.2.1, .int .i64 r5.1.2.2] :: Cl b1 28 [.int .i64 r2.1.1, .int .i64 r2.1.2.1, .int .i64 r2.1.2.2] :: hs) rfl ?_
  obtain ⟨r6, hg6, hr⟩ := inv_bind hr
  refine T.call .list (wants0 rfl) rfl (run_callF (vs := [_, _]) rfl Try.func11 rfl (by decide) rfl) (fun w hS => lease_End.c hS (o0a := (r1p0.2.1.1, r1p0.2.1.2.1, r1p0.2.1.2.2.1, r1p0.2.1.2.2.2.1, r1p0.2.1.2.2.2.2.1, r1p0.2.1.2.2.2.2.2.1, r1p0.2.1.2.2.2.2.2.2.1, r1p0.2.1.2.2.2.2.2.2.2.1, r1p0.2.1.2.2.2.2.2.2.2.2.1, r1p0.2.1.2.2.2.2.2.2.2.2.2.1, r1p0.2.1.2.2.2.2.2.2.2.2.2.2.1, r1p0.2.1.2.2.2.2.2.2.2.2.2.2.2.1, r1p0.2.1.2.2.2.2.2.2.2.2.2.2.2.2.1, r1p0.2.1.2.2.2.2.2.2.2.2.2.2.2.2.2.1, r1p0.2.1.2.2.2.2.2.2.2.2.2.2.2.2.2.2.1, r1p0.2.1.2.2.2.2.2.2.2.2.2.2.2.2.2.2.2.1, r1p0.2.1.2.2.2.2.2.2.2.2.2.2.2.2.2.2.2.2)) (o0aa := (r1p0.2.2.1.1, r1p0.2.2.1.2.1, r1p0.2.2.1.2.2.1, r1p0.2.2.1.2.2.2)) (o0aaa := (r1p0.2.2.2.1.1, r1p0.2.2.2.1.2.1, r1p0.2.2.2.1.2.2.1, r1p0.2.2.2.1.2.2.2)) (q0aaab := r1p0.2.2.2.2.1) (o0aaac := (r1p0.2.2.2.2.2.1.1, r1p0.2.2.2.2.2.1.2.1, r1p0.2.2.2.2.2.1.2.2.1, r1p0.2.2.2.2.2.1.2.2.2.1, r1p0.2.2.2.2.2.1.2.2.2.2.1, r1p0.2.2.2.2.2.1.2.2.2.2.2.1, r1p0.2.2.2.2.2.1.2.2.2.2.2.2)) (q0aaacb := r1p0.2.2.2.2.2.2.1) (q0aaacc := r1p0.2.2.2.2.2.2.2.1) (q0aah := r1p0.2.2.2.2.2.2.2.2.1) (q0aak := r1p0.2.2.2.2.2.2.2.2.2.1) (q0b := r4.2.2)  hg6) (fun x7 => ?_)
  refine T.move .list rfl (wants0 rfl) rfl rfl ?_
  refine T.extract .list rfl (wants0 rfl) rfl rfl rfl ?_
  refine T.extract .list rfl (wants0 rfl) rfl rfl rfl ?_
  refine T.assign .list rfl (wants0 rfl) rfl rfl ?_
  refine T.assign .list rfl (wants0 rfl) rfl rfl ?_
  refine T.nil ?_
  refine T.then_normal ?_
  refine T.seq ?_
  refine T.region ?_
  refine T.move .list rfl (wants0 rfl) rfl rfl ?_
  refine T.pick [0, 1, 2, 3, 4, 5, 6, 7, 8, 9, 10, 11, 12] 13 rfl rfl (Nat.le_add_left _ _) (hs' := Cl x2.1 88 [.pointer (some ⟨x2.2.1, 0, none⟩), .slice x7.1 r6.2.2.length x7.2] :: Cl x2.2.1 80 [.pointer (some ⟨x2.2.2.1, 0, none⟩), .int .i64 r1p0.2.1.1, .int .i64 r1p0.2.1.2.1, .int .i64 r1p0.2.1.2.2.1, .int .i64 r1p0.2.1.2.2.2.1, .int .i64 r1p0.2.1.2.2.2.2.1, .int .i64 r1p0.2.1.2.2.2.2.2.1, .int .i64 r1p0.2.1.2.2.2.2.2.2.1, .int .i64 r1p0.2.1.2.2.2.2.2.2.2.1, .int .i64 r1p0.2.1.2.2.2.2.2.2.2.2.1, .int .i64 r1p0.2.1.2.2.2.2.2.2.2.2.2.1, .int .i64 r1p0.2.1.2.2.2.2.2.2.2.2.2.2.1, .int .i64 r1p0.2.1.2.2.2.2.2.2.2.2.2.2.2.1, .int .i64 r1p0.2.1.2.2.2.2.2.2.2.2.2.2.2.2.1, .int .i64 r1p0.2.1.2.2.2.2.2.2.2.2.2.2.2.2.2.1, .int .i64 r1p0.2.1.2.2.2.2.2.2.2.2.2.2.2.2.2.2.1, .int .i64 r1p0.2.1.2.2.2.2.2.2.2.2.2.2.2.2.2.2.2.1, .int .i64 r1p0.2.1.2.2.2.2.2.2.2.2.2.2.2.2.2.2.2.2] :: Cl x2.2.2.1 103 [.pointer (some ⟨x2.2.2.2.1, 0, none⟩), .nilIface, .int .i64 r1p0.2.2.1.1, .int .i64 r1p0.2.2.1.2.1, .nilIface, .int .i64 r1p0.2.2.1.2.2.1, .int .i64 r1p0.2.2.1.2.2.2, .map (some x2.2.2.2.2.2.2.2.2.1), .slice none 0 0, .slice none 0 0, .map (some x2.2.2.2.2.2.2.2.2.2.1)] :: Cl x2.2.2.2.1 124 [.int .i64 r1p0.2.2.2.1.1, .map (some x2.2.2.2.2.1), .pointer (some ⟨x2.2.2.2.2.2.1, 0, none⟩), .int .i64 r1p0.2.2.2.1.2.1, .int .u64 r1p0.2.2.2.1.2.2.1, .int .i64 r1p0.2.2.2.1.2.2.2] :: Mp E64 x2.2.2.2.2.1 r1p0.2.2.2.2.1 :: Cl x2.2.2.2.2.2.1 74 [.int .i64 r1p0.2.2.2.2.2.1.1, .map (some x2.2.2.2.2.2.2.1), .slice x2.2.2.2.2.2.2.2.1.1 r1p0.2.2.2.2.2.2.2.1.length x2.2.2.2.2.2.2.2.1.2, .bool r1p0.2.2.2.2.2.1.2.1, .int .i64 r1p0.2.2.2.2.2.1.2.2.1, .int .i64 r1p0.2.2.2.2.2.1.2.2.2.1, .int .u64 r1p0.2.2.2.2.2.1.2.2.2.2.1, .int .i64 r1p0.2.2.2.2.2.1.2.2.2.2.2.1, .int .i64 r1p0.2.2.2.2.2.1.2.2.2.2.2.2] :: Mp (Elt.slice E8) x2.2.2.2.2.2.2.1 r1p0.2.2.2.2.2.2.1 :: Bf (Elt.pair E64 (Elt.slice E8)) 147 x2.2.2.2.2.2.2.2.1.1 x2.2.2.2.2.2.2.2.1.2 r1p0.2.2.2.2.2.2.2.1 :: Mp E64 x2.2.2.2.2.2.2.2.2.1 r1p0.2.2.2.2.2.2.2.2.1 :: Mp E64 x2.2.2.2.2.2.2.2.2.2.1 r1p0.2.2.2.2.2.2.2.2.2.1 :: Bf (Elt.pair (Elt.pair E64 (Elt.pair (Elt.slice E8) (Elt.slice E8))) EBool) 91 x7.1 x7.2 r6.2.2 :: Cl b2 28 [.int .i64 r5.1.1, .int .i64 r5.1.2.1, .int .i64 r5.1.2.2] :: Cl b1 28 [.int .i64 r2.1.1, .int .i64 r2.1.2.1, .int .i64 r2.1.2.2] :: hs) rfl ?_
  obtain ⟨r7, hg7, hr⟩ := inv_bind hr
  refine T.call .list (wants0 rfl) rfl (run_callF (vs := [_, _]) rfl Try.func11 rfl (by decide) rfl) (fun w hS => lease_End.c hS (o0a := (r1p0.2.1.1, r1p0.2.1.2.1, r1p0.2.1.2.2.1, r1p0.2.1.2.2.2.1, r1p0.2.1.2.2.2.2.1, r1p0.2.1.2.2.2.2.2.1, r1p0.2.1.2.2.2.2.2.2.1, r1p0.2.1.2.2.2.2.2.2.2.1, r1p0.2.1.2.2.2.2.2.2.2.2.1, r1p0.2.1.2.2.2.2.2.2.2.2.2.1, r1p0.2.1.2.2.2.2.2.2.2.2.2.2.1, r1p0.2.1.2.2.2.2.2.2.2.2.2.2.2.1, r1p0.2.1.2.2.2.2.2.2.2.2.2.2.2.2.1, r1p0.2.1.2.2.2.2.2.2.2.2.2.2.2.2.2.1, r1p0.2.1.2.2.2.2.2.2.2.2.2.2.2.2.2.2.1, r1p0.2.1.2.2.2.2.2.2.2.2.2.2.2.2.2.2.2.1, r1p0.2.1.2.2.2.2.2.2.2.2.2.2.2.2.2.2.2.2)) (o0aa := (r1p0.2.2.1.1, r1p0.2.2.1.2.1, r1p0.2.2.1.2.2.1, r1p0.2.2.1.2.2.2)) (o0aaa := (r1p0.2.2.2.1.1, r1p0.2.2.2.1.2.1, r1p0.2.2.2.1.2.2.1, r1p0.2.2.2.1.2.2.2)) (q0aaab := r1p0.2.2.2.2.1) (o0aaac := (r1p0.2.2.2.2.2.1.1, r1p0.2.2.2.2.2.1.2.1, r1p0.2.2.2.2.2.1.2.2.1, r1p0.2.2.2.2.2.1.2.2.2.1, r1p0.2.2.2.2.2.1.2.2.2.2.1, r1p0.2.2.2.2.2.1.2.2.2.2.2.1, r1p0.2.2.2.2.2.1.2.2.2.2.2.2)) (q0aaacb := r1p0.2.2.2.2.2.2.1) (q0aaacc := r1p0.2.2.2.2.2.2.2.1) (q0aah := r1p0.2.2.2.2.2.2.2.2.1) (q0aak := r1p0.2.2.2.2.2.2.2.2.2.1) (q0b := r6.2.2)  hg7) (fun x8 => ?_)
  refine T.move .list rfl (wants0 rfl) rfl rfl ?_
  refine T.extract .list rfl (wants0 rfl) rfl rfl rfl ?_
  refine T.extract .list rfl (wants0 rfl) rfl rfl rfl ?_
  refine T.assign .list rfl (wants0 rfl) rfl rfl ?_
  refine T.assign .list rfl (wants0 rfl) rfl rfl ?_
  refine T.nil ?_
  refine T.then_normal ?_
  refine T.seq ?_
  refine T.region ?_
  obtain ⟨r8, hg8, hr⟩ := inv_bind hr
  refine T.call .list (wants0 rfl) rfl (run_callF (vs := [_]) rfl Try.func13 rfl (by decide) rfl) (fun w hS => lease_Now_nil0.c hS  hg8) (fun x9 => ?_)
  refine T.move .list rfl (wants0 rfl) rfl rfl ?_
  refine T.extract .list rfl (wants0 rfl) rfl rfl rfl ?_
  refine T.extract .list rfl (wants0 rfl) rfl rfl rfl ?_
  refine T.allocS .list rfl (wants0 rfl) rfl (cs := [.int .i64 0, .int .i64 0, .int .i64 0]) rfl (fun b3 => ?_)
  refine T.store .list 0 rfl rfl (wants0 rfl) rfl rfl rfl rfl (Nat.le_of_ble_eq_true rfl) rfl (cs' := [.int .i64 r8.1.1, .int .i64 r8.1.2.1, .int .i64 r8.1.2.2]) rfl rfl ?_
  refine T.assign .list rfl (wants0 rfl) rfl rfl ?_
  refine T.nil ?_
  refine T.then_normal ?_
  refine T.seq ?_
  refine T.region ?_
  refine T.field .list rfl (wants0 rfl) rfl rfl ?_
  refine T.load .list 13 rfl rfl (wants0 rfl) rfl rfl rfl ?_
  refine T.bin .list rfl (wants0 rfl) rfl rfl rfl rfl ?_
  refine T.move .list rfl (wants0 rfl) rfl rfl ?_
  refine T.bool (b := (decide (r2.1.1 = (-1)))) (fun hb1 => ?_) (fun hb1 => ?_)
  ·replace hr := inv_posB hb1 hr
   refine T.move .list rfl (wants1 rfl rfl rfl hb1) rfl rfl ?_
   refine T.bin .list rfl (wants1 rfl rfl rfl hb1) rfl rfl rfl rfl ?_
   refine T.pickT .list rfl (wants0 rfl) rfl rfl hb1 rfl ?_
   refine T.move .list rfl (wants0 rfl) rfl rfl ?_
   refine T.bool (b := (decide (r2.2 = 0))) (fun hb2 => ?_) (fun hb2 => ?_)
   ·replace hr := inv_posB hb2 hr
    refine T.move .list rfl (wants1 rfl rfl rfl hb2) rfl rfl ?_
    refine T.pickT .list rfl (wants0 rfl) rfl rfl hb2 rfl ?_
    refine T.move .list rfl (wants0 rfl) rfl rfl ?_
    refine T.bool (b := r3.1) (fun hb3 => ?_) (fun hb3 => ?_)
    ·replace hr := inv_posB hb3 hr
     refine T.move .list rfl (wants1 rfl rfl rfl hb3) rfl rfl ?_
     refine T.bin .list rfl (wants1 rfl rfl rfl hb3) rfl rfl rfl rfl ?_
     refine T.pickT .list rfl (wants0 rfl) rfl rfl hb3 rfl ?_
     refine T.move .list rfl (wants0 rfl) rfl rfl ?_
     refine T.bool (b := (decide (r3.2.1 = 0))) (fun hb4 => ?_) (fun hb4 => ?_)
     ·replace hr := inv_posB hb4 hr
      refine T.move .list rfl (wants1 rfl rfl rfl hb4) rfl rfl ?_
      refine T.not .list rfl (wants1 rfl rfl rfl hb4) rfl rfl ?_
      refine T.pickT .list rfl (wants0 rfl) rfl rfl hb4 rfl ?_
      refine T.move .list rfl (wants0 rfl) rfl rfl ?_
      refine T.bool (b := r4.1) (fun hb5 => ?_) (fun hb5 => ?_)
      ·replace hr := inv_posB hb5 hr
       refine T.leave .list (wantsNot rfl rfl rfl (not_t hb5)) rfl ?_
       refine T.leave .list (wantsNot rfl rfl rfl (not_t hb5)) rfl ?_
       refine T.pickF .list rfl (wants0 rfl) rfl rfl (not_t hb5) rfl ?_
       refine T.move .list rfl (wants0 rfl) rfl rfl ?_
       refine T.leave .list (wantsNot rfl rfl rfl rfl) rfl ?_
       refine T.leave .list (wantsNot rfl rfl rfl rfl) rfl ?_
       refine T.leave .list (wantsNot rfl rfl rfl rfl) rfl ?_
       refine T.pickF .list rfl (wants0 rfl) rfl rfl rfl rfl ?_
       refine T.move .list rfl (wants0 rfl) rfl rfl ?_
       refine T.leave .list (wantsNot rfl rfl rfl rfl) rfl ?_
       refine T.leave .list (wantsNot rfl rfl rfl rfl) rfl ?_
       refine T.pickF .list rfl (wants0 rfl) rfl rfl rfl rfl ?_
       refine T.move .list rfl (wants0 rfl) rfl rfl ?_
       refine T.leave .list (wantsNot rfl rfl rfl rfl) rfl ?_
       refine T.leave .list (wantsNot rfl rfl rfl rfl) rfl ?_
       refine T.pickF .list rfl (wants0 rfl) rfl rfl rfl rfl ?_
       refine T.move .list rfl (wants0 rfl) rfl rfl ?_
       refine T.leave .list (wantsNot rfl rfl rfl rfl) rfl ?_
       refine T.leave .list (wantsNot rfl rfl rfl rfl) rfl ?_
       refine T.pickF .list rfl (wants0 rfl) rfl rfl rfl rfl ?_
       refine T.move .list rfl (wants0 rfl) rfl rfl ?_
       refine T.leave .list (wantsNot rfl rfl rfl rfl) rfl ?_
       refine T.pickF .list rfl (wants0 rfl) rfl rfl rfl rfl ?_
       refine T.move .list rfl (wants0 rfl) rfl rfl ?_
       refine T.leave .list (wantsNot rfl rfl rfl rfl) rfl ?_
       refine T.leave .list (wantsNot rfl rfl rfl rfl) rfl ?_
       refine T.pickF .list rfl (wants0 rfl) rfl rfl rfl rfl ?_
       refine T.move .list rfl (wants0 rfl) rfl rfl ?_
       refine T.leave .list (wantsNot rfl rfl rfl rfl) rfl ?_
       refine T.leave .list (wantsNot rfl rfl rfl rfl) rfl ?_
       refine T.pickF .list rfl (wants0 rfl) rfl rfl rfl rfl ?_
       refine T.move .list rfl (wants0 rfl) rfl rfl ?_
       refine T.leave .list (wantsNot rfl rfl rfl rfl) rfl ?_
       refine T.pickF .list rfl (wants0 rfl) rfl rfl rfl rfl ?_
       refine T.move .list rfl (wants0 rfl) rfl rfl ?_
       refine T.leave .list (wantsNot rfl rfl rfl rfl) rfl ?_
       refine T.leave .list (wantsNot rfl rfl rfl rfl) rfl ?_
       refine T.pickF .list rfl (wants0 rfl) rfl rfl rfl rfl ?_
       refine T.assign .list rfl (wants0 rfl) rfl rfl ?_
       refine T.nil ?_
       refine T.then_normal ?_
       refine T.ret ?_
       obtain rfl := inv_some hr
       refine T.pick [] 14 rfl rfl (Nat.le_add_left _ _) rfl ?_
       refine T.ret1 rfl rfl (fun w hS => ⟨(), rfl, hS⟩)
      ·replace hr := inv_negB hb5 hr
       refine T.move .list rfl (wants1 rfl rfl rfl (not_f hb5)) rfl rfl ?_
       refine T.bin .list rfl (wants1 rfl rfl rfl (not_f hb5)) rfl rfl rfl rfl ?_
       refine T.pickT .list rfl (wants0 rfl) rfl rfl (not_f hb5) rfl ?_
       refine T.move .list rfl (wants0 rfl) rfl rfl ?_
       refine T.bool (b := (decide (r4.2.1 = 0))) (fun hb6 => ?_) (fun hb6 => ?_)
       ·replace hr := inv_posB hb6 hr
        refine T.loadN .list 12 rfl rfl (wants1 rfl rfl rfl hb6) rfl rfl (vs := [.int .i64 r5.1.1, .int .i64 r5.1.2.1, .int .i64 r5.1.2.2]) rfl rfl ?_
        refine T.build .list (vals := [(0, .int .i64 2), (1, .int .i64 10), (2, .int .i64 5)]) (cells := #[.int .i64 2, .int .i64 10, .int .i64 5]) rfl (wants1 rfl rfl rfl hb6) rfl rfl (run_buildStruct (sizes := [1, 1, 1]) (by kernel_rfl) (by kernel_rfl)) ?_
        refine T.eqS .list rfl (wants1 rfl rfl rfl hb6) rfl rfl rfl (by kernel_rfl) (by kernel_rfl) (by kernel_rfl) (l := [(3, 0), (3, 1), (3, 2)]) (by kernel_rfl) (.int rfl rfl (.int rfl rfl (.int rfl rfl .nil))) (b' := (decide ((r5.1.1, r5.1.2.1, r5.1.2.2) = (2, 10, 5)))) (by rw [Bool.eq_iff_iff]; simp [Prod.ext_iff]) ?_
        refine T.pickT .list rfl (wants0 rfl) rfl rfl hb6 rfl ?_
        refine T.move .list rfl (wants0 rfl) rfl rfl ?_
        refine T.bool (b := (decide ((r5.1.1, r5.1.2.1, r5.1.2.2) = (2, 10, 5)))) (fun hb7 => ?_) (fun hb7 => ?_)
        ·replace hr := inv_posB hb7 hr
         refine T.move .list rfl (wants1 rfl rfl rfl hb7) rfl rfl ?_
         refine T.bin .list rfl (wants1 rfl rfl rfl hb7) rfl rfl rfl rfl ?_
         refine T.pickT .list rfl (wants0 rfl) rfl rfl hb7 rfl ?_
         refine T.move .list rfl (wants0 rfl) rfl rfl ?_
         refine T.bool (b := (decide (r5.2 = 0))) (fun hb8 => ?_) (fun hb8 => ?_)
         ·replace hr := inv_posB hb8 hr
          refine T.move .list rfl (wants1 rfl rfl rfl hb8) rfl rfl ?_
          refine T.not .list rfl (wants1 rfl rfl rfl hb8) rfl rfl ?_
          refine T.pickT .list rfl (wants0 rfl) rfl rfl hb8 rfl ?_
          refine T.move .list rfl (wants0 rfl) rfl rfl ?_
          refine T.bool (b := r6.1) (fun hb9 => ?_) (fun hb9 => ?_)
          ·replace hr := inv_posB hb9 hr
           refine T.leave .list (wantsNot rfl rfl rfl (not_t hb9)) rfl ?_
           refine T.leave .list (wantsNot rfl rfl rfl (not_t hb9)) rfl ?_
           refine T.pickF .list rfl (wants0 rfl) rfl rfl (not_t hb9) rfl ?_
           refine T.move .list rfl (wants0 rfl) rfl rfl ?_
           refine T.leave .list (wantsNot rfl rfl rfl rfl) rfl ?_
           refine T.pickF .list rfl (wants0 rfl) rfl rfl rfl rfl ?_
           refine T.move .list rfl (wants0 rfl) rfl rfl ?_
           refine T.leave .list (wantsNot rfl rfl rfl rfl) rfl ?_
           refine T.leave .list (wantsNot rfl rfl rfl rfl) rfl ?_
           refine T.pickF .list rfl (wants0 rfl) rfl rfl rfl rfl ?_
           refine T.move .list rfl (wants0 rfl) rfl rfl ?_
           refine T.leave .list (wantsNot rfl rfl rfl rfl) rfl ?_
           refine T.leave .list (wantsNot rfl rfl rfl rfl) rfl ?_
           refine T.pickF .list rfl (wants0 rfl) rfl rfl rfl rfl ?_
           refine T.move .list rfl (wants0 rfl) rfl rfl ?_
           refine T.leave .list (wantsNot rfl rfl rfl rfl) rfl ?_
           refine T.pickF .list rfl (wants0 rfl) rfl rfl rfl rfl ?_
           refine T.move .list rfl (wants0 rfl) rfl rfl ?_
           refine T.leave .list (wantsNot rfl rfl rfl rfl) rfl ?_
           refine T.leave .list (wantsNot rfl rfl rfl rfl) rfl ?_
           refine T.pickF .list rfl (wants0 rfl) rfl rfl rfl rfl ?_
           refine T.assign .list rfl (wants0 rfl) rfl rfl ?_
           refine T.nil ?_
           refine T.then_normal ?_
           refine T.ret ?_
           obtain rfl := inv_some hr
           refine T.pick [] 14 rfl rfl (Nat.le_add_left _ _) rfl ?_
           refine T.ret1 rfl rfl (fun w hS => ⟨(), rfl, hS⟩)
          ·replace hr := inv_negB hb9 hr
           refine T.move .list rfl (wants1 rfl rfl rfl (not_f hb9)) rfl rfl ?_
           refine T.bin .list rfl (wants1 rfl rfl rfl (not_f hb9)) rfl rfl rfl rfl ?_
           refine T.pickT .list rfl (wants0 rfl) rfl rfl (not_f hb9) rfl ?_
           refine T.move .list rfl (wants0 rfl) rfl rfl ?_
           refine T.bool (b := (decide (r6.2.1 = 0))) (fun hb10 => ?_) (fun hb10 => ?_)
           ·replace hr := inv_posB hb10 hr
            refine T.move .list rfl (wants1 rfl rfl rfl hb10) rfl rfl ?_
            refine T.pickT .list rfl (wants0 rfl) rfl rfl hb10 rfl ?_
            refine T.move .list rfl (wants0 rfl) rfl rfl ?_
            refine T.bool (b := r7.1) (fun hb11 => ?_) (fun hb11 => ?_)
            ·replace hr := inv_posB hb11 hr
             refine T.move .list rfl (wants1 rfl rfl rfl hb11) rfl rfl ?_
             refine T.bin .list rfl (wants1 rfl rfl rfl hb11) rfl rfl rfl rfl ?_
             refine T.pickT .list rfl (wants0 rfl) rfl rfl hb11 rfl ?_
             refine T.move .list rfl (wants0 rfl) rfl rfl ?_
             refine T.bool (b := (decide (r7.2.1 = 0))) (fun hb12 => ?_) (fun hb12 => ?_)
             ·replace hr := inv_posB hb12 hr
              refine T.move .list rfl (wants1 rfl rfl rfl hb12) rfl rfl ?_
              refine T.bin .list rfl (wants1 rfl rfl rfl hb12) rfl rfl rfl rfl ?_
              refine T.pickT .list rfl (wants0 rfl) rfl rfl hb12 rfl ?_
              refine T.move .list rfl (wants0 rfl) rfl rfl ?_
              refine T.bool (b := (decide (r8.2 = 1))) (fun hb13 => ?_) (fun hb13 => ?_)
              ·replace hr := inv_posB hb13 hr
               obtain ⟨r9, hg9, hr⟩ := inv_bind hr
               refine T.call .list (wants1 rfl rfl rfl hb13) rfl (run_callF (vs := [_, _, _, _]) rfl Try.func17 rfl (by decide) rfl) (fun w hS => lease_Serves.c hS  hg9) (fun x10 => ?_)
               refine T.pickT .list rfl (wants0 rfl) rfl rfl hb13 rfl ?_
               refine T.move .list rfl (wants0 rfl) rfl rfl ?_
               refine T.bool (b := r9) (fun hb14 => ?_) (fun hb14 => ?_)
               ·replace hr := inv_posB hb14 hr
                obtain ⟨r10, hg10, hr⟩ := inv_bind hr
                refine T.call .list (wants1 rfl rfl rfl hb14) rfl (run_callF (vs := [_, _, _, _]) rfl Try.func18 rfl (by decide) rfl) (fun w hS => lease_Ended.c hS  hg10) (fun x11 => ?_)
                refine T.not .list rfl (wants1 rfl rfl rfl hb14) rfl rfl ?_
                refine T.pickT .list rfl (wants0 rfl) rfl rfl hb14 rfl ?_
                refine T.assign .list rfl (wants0 rfl) rfl rfl ?_
                refine T.nil ?_
                refine T.then_normal ?_
                refine T.ret ?_
                obtain rfl := inv_some hr
                refine T.pick [] 14 rfl rfl (Nat.le_add_left _ _) rfl ?_
                refine T.ret1 rfl rfl (fun w hS => ⟨(), rfl, hS⟩)
               ·replace hr := inv_negB hb14 hr
                refine T.leave .list (wantsNot rfl rfl rfl hb14) rfl ?_
                refine T.leave .list (wantsNot rfl rfl rfl hb14) rfl ?_
                refine T.pickF .list rfl (wants0 rfl) rfl rfl hb14 rfl ?_
                refine T.assign .list rfl (wants0 rfl) rfl rfl ?_
                refine T.nil ?_
                refine T.then_normal ?_
                refine T.ret ?_
                obtain rfl := inv_some hr
                refine T.pick [] 14 rfl rfl (Nat.le_add_left _ _) rfl ?_
                refine T.ret1 rfl rfl (fun w hS => ⟨(), rfl, hS⟩)
              ·replace hr := inv_negB hb13 hr
               refine T.leave .list (wantsNot rfl rfl rfl hb13) rfl ?_
               refine T.pickF .list rfl (wants0 rfl) rfl rfl hb13 rfl ?_
               refine T.move .list rfl (wants0 rfl) rfl rfl ?_
               refine T.leave .list (wantsNot rfl rfl rfl rfl) rfl ?_
               refine T.leave .list (wantsNot rfl rfl rfl rfl) rfl ?_
               refine T.pickF .list rfl (wants0 rfl) rfl rfl rfl rfl ?_
               refine T.assign .list rfl (wants0 rfl) rfl rfl ?_
               refine T.nil ?_
               refine T.then_normal ?_
               refine T.ret ?_
               obtain rfl := inv_some hr
               refine T.pick [] 14 rfl rfl (Nat.le_add_left _ _) rfl ?_
               refine T.ret1 rfl rfl (fun w hS => ⟨(), rfl, hS⟩)
             ·replace hr := inv_negB hb12 hr
              refine T.leave .list (wantsNot rfl rfl rfl hb12) rfl ?_
              refine T.leave .list (wantsNot rfl rfl rfl hb12) rfl ?_
              refine T.pickF .list rfl (wants0 rfl) rfl rfl hb12 rfl ?_
              refine T.move .list rfl (wants0 rfl) rfl rfl ?_
              refine T.leave .list (wantsNot rfl rfl rfl rfl) rfl ?_
              refine T.pickF .list rfl (wants0 rfl) rfl rfl rfl rfl ?_
              refine T.move .list rfl (wants0 rfl) rfl rfl ?_
              refine T.leave .list (wantsNot rfl rfl rfl rfl) rfl ?_
              refine T.leave .list (wantsNot rfl rfl rfl rfl) rfl ?_
              refine T.pickF .list rfl (wants0 rfl) rfl rfl rfl rfl ?_
              refine T.assign .list rfl (wants0 rfl) rfl rfl ?_
              refine T.nil ?_
              refine T.then_normal ?_
              refine T.ret ?_
              obtain rfl := inv_some hr
              refine T.pick [] 14 rfl rfl (Nat.le_add_left _ _) rfl ?_
              refine T.ret1 rfl rfl (fun w hS => ⟨(), rfl, hS⟩)
            ·replace hr := inv_negB hb11 hr
             refine T.leave .list (wantsNot rfl rfl rfl hb11) rfl ?_
             refine T.leave .list (wantsNot rfl rfl rfl hb11) rfl ?_
             refine T.pickF .list rfl (wants0 rfl) rfl rfl hb11 rfl ?_
             refine T.move .list rfl (wants0 rfl) rfl rfl ?_
             refine T.leave .list (wantsNot rfl rfl rfl rfl) rfl ?_
             refine T.leave .list (wantsNot rfl rfl rfl rfl) rfl ?_
             refine T.pickF .list rfl (wants0 rfl) rfl rfl rfl rfl ?_
             refine T.move .list rfl (wants0 rfl) rfl rfl ?_
             refine T.leave .list (wantsNot rfl rfl rfl rfl) rfl ?_
             refine T.pickF .list rfl (wants0 rfl) rfl rfl rfl rfl ?_
             refine T.move .list rfl (wants0 rfl) rfl rfl ?_
             refine T.leave .list (wantsNot rfl rfl rfl rfl) rfl ?_
             refine T.leave .list (wantsNot rfl rfl rfl rfl) rfl ?_
             refine T.pickF .list rfl (wants0 rfl) rfl rfl rfl rfl ?_
             refine T.assign .list rfl (wants0 rfl) rfl rfl ?_
             refine T.nil ?_
             refine T.then_normal ?_
             refine T.ret ?_
             obtain rfl := inv_some hr
             refine T.pick [] 14 rfl rfl (Nat.le_add_left _ _) rfl ?_
             refine T.ret1 rfl rfl (fun w hS => ⟨(), rfl, hS⟩)
           ·replace hr := inv_negB hb10 hr
            refine T.leave .list (wantsNot rfl rfl rfl hb10) rfl ?_
            refine T.pickF .list rfl (wants0 rfl) rfl rfl hb10 rfl ?_
            refine T.move .list rfl (wants0 rfl) rfl rfl ?_
            refine T.leave .list (wantsNot rfl rfl rfl rfl) rfl ?_
            refine T.leave .list (wantsNot rfl rfl rfl rfl) rfl ?_
            refine T.pickF .list rfl (wants0 rfl) rfl rfl rfl rfl ?_
            refine T.move .list rfl (wants0 rfl) rfl rfl ?_
            refine T.leave .list (wantsNot rfl rfl rfl rfl) rfl ?_
            refine T.leave .list (wantsNot rfl rfl rfl rfl) rfl ?_
            refine T.pickF .list rfl (wants0 rfl) rfl rfl rfl rfl ?_
            refine T.move .list rfl (wants0 rfl) rfl rfl ?_
            refine T.leave .list (wantsNot rfl rfl rfl rfl) rfl ?_
            refine T.pickF .list rfl (wants0 rfl) rfl rfl rfl rfl ?_
            refine T.move .list rfl (wants0 rfl) rfl rfl ?_
            refine T.leave .list (wantsNot rfl rfl rfl rfl) rfl ?_
            refine T.leave .list (wantsNot rfl rfl rfl rfl) rfl ?_
            refine T.pickF .list rfl (wants0 rfl) rfl rfl rfl rfl ?_
            refine T.assign .list rfl (wants0 rfl) rfl rfl ?_
            refine T.nil ?_
            refine T.then_normal ?_
            refine T.ret ?_
            obtain rfl := inv_some hr
            refine T.pick [] 14 rfl rfl (Nat.le_add_left _ _) rfl ?_
            refine T.ret1 rfl rfl (fun w hS => ⟨(), rfl, hS⟩)
         ·replace hr := inv_negB hb8 hr
          refine T.leave .list (wantsNot rfl rfl rfl hb8) rfl ?_
          refine T.leave .list (wantsNot rfl rfl rfl hb8) rfl ?_
          refine T.pickF .list rfl (wants0 rfl) rfl rfl hb8 rfl ?_
          refine T.move .list rfl (wants0 rfl) rfl rfl ?_
          refine T.leave .list (wantsNot rfl rfl rfl rfl) rfl ?_
          refine T.leave .list (wantsNot rfl rfl rfl rfl) rfl ?_
          refine T.pickF .list rfl (wants0 rfl) rfl rfl rfl rfl ?_
          refine T.move .list rfl (wants0 rfl) rfl rfl ?_
          refine T.leave .list (wantsNot rfl rfl rfl rfl) rfl ?_
          refine T.pickF .list rfl (wants0 rfl) rfl rfl rfl rfl ?_
          refine T.move .list rfl (wants0 rfl) rfl rfl ?_
          refine T.leave .list (wantsNot rfl rfl rfl rfl) rfl ?_
          refine T.leave .list (wantsNot rfl rfl rfl rfl) rfl ?_
          refine T.pickF .list rfl (wants0 rfl) rfl rfl rfl rfl ?_
          refine T.move .list rfl (wants0 rfl) rfl rfl ?_
          refine T.leave .list (wantsNot rfl rfl rfl rfl) rfl ?_
          refine T.leave .list (wantsNot rfl rfl rfl rfl) rfl ?_
          refine T.pickF .list rfl (wants0 rfl) rfl rfl rfl rfl ?_
          refine T.move .list rfl (wants0 rfl) rfl rfl ?_
          refine T.leave .list (wantsNot rfl rfl rfl rfl) rfl ?_
          refine T.pickF .list rfl (wants0 rfl) rfl rfl rfl rfl ?_
          refine T.move .list rfl (wants0 rfl) rfl rfl ?_
          refine T.leave .list (wantsNot rfl rfl rfl rfl) rfl ?_
          refine T.leave .list (wantsNot rfl rfl rfl rfl) rfl ?_
          refine T.pickF .list rfl (wants0 rfl) rfl rfl rfl rfl ?_
          refine T.assign .list rfl (wants0 rfl) rfl rfl ?_
          refine T.nil ?_
          refine T.then_normal ?_
          refine T.ret ?_
          obtain rfl := inv_some hr
          refine T.pick [] 14 rfl rfl (Nat.le_add_left _ _) rfl ?_
          refine T.ret1 rfl rfl (fun w hS => ⟨(), rfl, hS⟩)
        ·replace hr := inv_negB hb7 hr
         refine T.leave .list (wantsNot rfl rfl rfl hb7) rfl ?_
         refine T.leave .list (wantsNot rfl rfl rfl hb7) rfl ?_
         refine T.pickF .list rfl (wants0 rfl) rfl rfl hb7 rfl ?_
         refine T.move .list rfl (wants0 rfl) rfl rfl ?_
         refine T.leave .list (wantsNot rfl rfl rfl rfl) rfl ?_
         refine T.leave .list (wantsNot rfl rfl rfl rfl) rfl ?_
         refine T.pickF .list rfl (wants0 rfl) rfl rfl rfl rfl ?_
         refine T.move .list rfl (wants0 rfl) rfl rfl ?_
         refine T.leave .list (wantsNot rfl rfl rfl rfl) rfl ?_
         refine T.leave .list (wantsNot rfl rfl rfl rfl) rfl ?_
         refine T.pickF .list rfl (wants0 rfl) rfl rfl rfl rfl ?_
         refine T.move .list rfl (wants0 rfl) rfl rfl ?_
         refine T.leave .list (wantsNot rfl rfl rfl rfl) rfl ?_
         refine T.pickF .list rfl (wants0 rfl) rfl rfl rfl rfl ?_
         refine T.move .list rfl (wants0 rfl) rfl rfl ?_
         refine T.leave .list (wantsNot rfl rfl rfl rfl) rfl ?_
         refine T.leave .list (wantsNot rfl rfl rfl rfl) rfl ?_
         refine T.pickF .list rfl (wants0 rfl) rfl rfl rfl rfl ?_
         refine T.move .list rfl (wants0 rfl) rfl rfl ?_
         refine T.leave .list (wantsNot rfl rfl rfl rfl) rfl ?_
         refine T.leave .list (wantsNot rfl rfl rfl rfl) rfl ?_
         refine T.pickF .list rfl (wants0 rfl) rfl rfl rfl rfl ?_
         refine T.move .list rfl (wants0 rfl) rfl rfl ?_
         refine T.leave .list (wantsNot rfl rfl rfl rfl) rfl ?_
         refine T.pickF .list rfl (wants0 rfl) rfl rfl rfl rfl ?_
         refine T.move .list rfl (wants0 rfl) rfl rfl ?_
         refine T.leave .list (wantsNot rfl rfl rfl rfl) rfl ?_
         refine T.leave .list (wantsNot rfl rfl rfl rfl) rfl ?_
         refine T.pickF .list rfl (wants0 rfl) rfl rfl rfl rfl ?_
         refine T.assign .list rfl (wants0 rfl) rfl rfl ?_
         refine T.nil ?_
         refine T.then_normal ?_
         refine T.ret ?_
         obtain rfl := inv_some hr
         refine T.pick [] 14 rfl rfl (Nat.le_add_left _ _) rfl ?_
         refine T.ret1 rfl rfl (fun w hS => ⟨(), rfl, hS⟩)
       ·replace hr := inv_negB hb6 hr
        refine T.leave .list (wantsNot rfl rfl rfl hb6) rfl ?_
        refine T.leave .list (wantsNot rfl rfl rfl hb6) rfl ?_
        refine T.leave .list (wantsNot rfl rfl rfl hb6) rfl ?_
        refine T.pickF .list rfl (wants0 rfl) rfl rfl hb6 rfl ?_
        refine T.move .list rfl (wants0 rfl) rfl rfl ?_
        refine T.leave .list (wantsNot rfl rfl rfl rfl) rfl ?_
        refine T.leave .list (wantsNot rfl rfl rfl rfl) rfl ?_
        refine T.pickF .list rfl (wants0 rfl) rfl rfl rfl rfl ?_
        refine T.move .list rfl (wants0 rfl) rfl rfl ?_
        refine T.leave .list (wantsNot rfl rfl rfl rfl) rfl ?_
        refine T.leave .list (wantsNot rfl rfl rfl rfl) rfl ?_
        refine T.pickF .list rfl (wants0 rfl) rfl rfl rfl rfl ?_
        refine T.move .list rfl (wants0 rfl) rfl rfl ?_
        refine T.leave .list (wantsNot rfl rfl rfl rfl) rfl ?_
        refine T.leave .list (wantsNot rfl rfl rfl rfl) rfl ?_
        refine T.pickF .list rfl (wants0 rfl) rfl rfl rfl rfl ?_
        refine T.move .list rfl (wants0 rfl) rfl rfl ?_
        refine T.leave .list (wantsNot rfl rfl rfl rfl) rfl ?_
        refine T.pickF .list rfl (wants0 rfl) rfl rfl rfl rfl ?_
        refine T.move .list rfl (wants0 rfl) rfl rfl ?_
        refine T.leave .list (wantsNot rfl rfl rfl rfl) rfl ?_
        refine T.leave .list (wantsNot rfl rfl rfl rfl) rfl ?_
        refine T.pickF .list rfl (wants0 rfl) rfl rfl rfl rfl ?_
        refine T.move .list rfl (wants0 rfl) rfl rfl ?_
        refine T.leave .list (wantsNot rfl rfl rfl rfl) rfl ?_
        refine T.leave .list (wantsNot rfl rfl rfl rfl) rfl ?_
        refine T.pickF .list rfl (wants0 rfl) rfl rfl rfl rfl ?_
        refine T.move .list rfl (wants0 rfl) rfl rfl ?_
        refine T.leave .list (wantsNot rfl rfl rfl rfl) rfl ?_
        refine T.pickF .list rfl (wants0 rfl) rfl rfl rfl rfl ?_
        refine T.move .list rfl (wants0 rfl) rfl rfl ?_
        refine T.leave .list (wantsNot rfl rfl rfl rfl) rfl ?_
        refine T.leave .list (wantsNot rfl rfl rfl rfl) rfl ?_
        refine T.pickF .list rfl (wants0 rfl) rfl rfl rfl rfl ?_
        refine T.assign .list rfl (wants0 rfl) rfl rfl ?_
        refine T.nil ?_
        refine T.then_normal ?_
        refine T.ret ?_
        obtain rfl := inv_some hr
        refine T.pick [] 14 rfl rfl (Nat.le_add_left _ _) rfl ?_
        refine T.ret1 rfl rfl (fun w hS => ⟨(), rfl, hS⟩)
     ·replace hr := inv_negB hb4 hr
      refine T.leave .list (wantsNot rfl rfl rfl hb4) rfl ?_
      refine T.leave .list (wantsNot rfl rfl rfl hb4) rfl ?_
      refine T.pickF .list rfl (wants0 rfl) rfl rfl hb4 rfl ?_
      refine T.move .list rfl (wants0 rfl) rfl rfl ?_
      refine T.leave .list (wantsNot rfl rfl rfl rfl) rfl ?_
      refine T.leave .list (wantsNot rfl rfl rfl rfl) rfl ?_
      refine T.pickF .list rfl (wants0 rfl) rfl rfl rfl rfl ?_
      refine T.move .list rfl (wants0 rfl) rfl rfl ?_
      refine T.leave .list (wantsNot rfl rfl rfl rfl) rfl ?_
      refine T.leave .list (wantsNot rfl rfl rfl rfl) rfl ?_
      refine T.leave .list (wantsNot rfl rfl rfl rfl) rfl ?_
      refine T.pickF .list rfl (wants0 rfl) rfl rfl rfl rfl ?_
      refine T.move .list rfl (wants0 rfl) rfl rfl ?_
      refine T.leave .list (wantsNot rfl rfl rfl rfl) rfl ?_
      refine T.leave .list (wantsNot rfl rfl rfl rfl) rfl ?_
      refine T.pickF .list rfl (wants0 rfl) rfl rfl rfl rfl ?_
      refine T.move .list rfl (wants0 rfl) rfl rfl ?_
      refine T.leave .list (wantsNot rfl rfl rfl rfl) rfl ?_
      refine T.leave .list (wantsNot rfl rfl rfl rfl) rfl ?_
      refine T.pickF .list rfl (wants0 rfl) rfl rfl rfl rfl ?_
      refine T.move .list rfl (wants0 rfl) rfl rfl ?_
      refine T.leave .list (wantsNot rfl rfl rfl rfl) rfl ?_
      refine T.leave .list (wantsNot rfl rfl rfl rfl) rfl ?_
      refine T.pickF .list rfl (wants0 rfl) rfl rfl rfl rfl ?_
      refine T.move .list rfl (wants0 rfl) rfl rfl ?_
      refine T.leave .list (wantsNot rfl rfl rfl rfl) rfl ?_
      refine T.pickF .list rfl (wants0 rfl) rfl rfl rfl rfl ?_
      refine T.move .list rfl (wants0 rfl) rfl rfl ?_
      refine T.leave .list (wantsNot rfl rfl rfl rfl) rfl ?_
      refine T.leave .list (wantsNot rfl rfl rfl rfl) rfl ?_
      refine T.pickF .list rfl (wants0 rfl) rfl rfl rfl rfl ?_
      refine T.move .list rfl (wants0 rfl) rfl rfl ?_
      refine T.leave .list (wantsNot rfl rfl rfl rfl) rfl ?_
      refine T.leave .list (wantsNot rfl rfl rfl rfl) rfl ?_
      refine T.pickF .list rfl (wants0 rfl) rfl rfl rfl rfl ?_
      refine T.move .list rfl (wants0 rfl) rfl rfl ?_
      refine T.leave .list (wantsNot rfl rfl rfl rfl) rfl ?_
      refine T.pickF .list rfl (wants0 rfl) rfl rfl rfl rfl ?_
      refine T.move .list rfl (wants0 rfl) rfl rfl ?_
      refine T.leave .list (wantsNot rfl rfl rfl rfl) rfl ?_
      refine T.leave .list (wantsNot rfl rfl rfl rfl) rfl ?_
      refine T.pickF .list rfl (wants0 rfl) rfl rfl rfl rfl ?_
      refine T.assign .list rfl (wants0 rfl) rfl rfl ?_
      refine T.nil ?_
      refine T.then_normal ?_
      refine T.ret ?_
      obtain rfl := inv_some hr
      refine T.pick [] 14 rfl rfl (Nat.le_add_left _ _) rfl ?_
      refine T.ret1 rfl rfl (fun w hS => ⟨(), rfl, hS⟩)
    ·replace hr := inv_negB hb3 hr
     refine T.leave .list (wantsNot rfl rfl rfl hb3) rfl ?_
     refine T.leave .list (wantsNot rfl rfl rfl hb3) rfl ?_
     refine T.pickF .list rfl (wants0 rfl) rfl rfl hb3 rfl ?_
     refine T.move .list rfl (wants0 rfl) rfl rfl ?_
     refine T.leave .list (wantsNot rfl rfl rfl rfl) rfl ?_
     refine T.leave .list (wantsNot rfl rfl rfl rfl) rfl ?_
     refine T.pickF .list rfl (wants0 rfl) rfl rfl rfl rfl ?_
     refine T.move .list rfl (wants0 rfl) rfl rfl ?_
     refine T.leave .list (wantsNot rfl rfl rfl rfl) rfl ?_
     refine T.leave .list (wantsNot rfl rfl rfl rfl) rfl ?_
     refine T.pickF .list rfl (wants0 rfl) rfl rfl rfl rfl ?_
     refine T.move .list rfl (wants0 rfl) rfl rfl ?_
     refine T.leave .list (wantsNot rfl rfl rfl rfl) rfl ?_
     refine T.leave .list (wantsNot rfl rfl rfl rfl) rfl ?_
     refine T.leave .list (wantsNot rfl rfl rfl rfl) rfl ?_
     refine T.pickF .list rfl (wants0 rfl) rfl rfl rfl rfl ?_
     refine T.move .list rfl (wants0 rfl) rfl rfl ?_
     refine T.leave .list (wantsNot rfl rfl rfl rfl) rfl ?_
     refine T.leave .list (wantsNot rfl rfl rfl rfl) rfl ?_
     refine T.pickF .list rfl (wants0 rfl) rfl rfl rfl rfl ?_
     refine T.move .list rfl (wants0 rfl) rfl rfl ?_
     refine T.leave .list (wantsNot rfl rfl rfl rfl) rfl ?_
     refine T.leave .list (wantsNot rfl rfl rfl rfl) rfl ?_
     refine T.pickF .list rfl (wants0 rfl) rfl rfl rfl rfl ?_
     refine T.move .list rfl (wants0 rfl) rfl rfl ?_
     refine T.leave .list (wantsNot rfl rfl rfl rfl) rfl ?_
     refine T.leave .list (wantsNot rfl rfl rfl rfl) rfl ?_
     refine T.pickF .list rfl (wants0 rfl) rfl rfl rfl rfl ?_
     refine T.move .list rfl (wants0 rfl) rfl rfl ?_
     refine T.leave .list (wantsNot rfl rfl rfl rfl) rfl ?_
     refine T.pickF .list rfl (wants0 rfl) rfl rfl rfl rfl ?_
     refine T.move .list rfl (wants0 rfl) rfl rfl ?_
     refine T.leave .list (wantsNot rfl rfl rfl rfl) rfl ?_
     refine T.leave .list (wantsNot rfl rfl rfl rfl) rfl ?_
     refine T.pickF .list rfl (wants0 rfl) rfl rfl rfl rfl ?_
     refine T.move .list rfl (wants0 rfl) rfl rfl ?_
     refine T.leave .list (wantsNot rfl rfl rfl rfl) rfl ?_
     refine T.leave .list (wantsNot rfl rfl rfl rfl) rfl ?_
     refine T.pickF .list rfl (wants0 rfl) rfl rfl rfl rfl ?_
     refine T.move .list rfl (wants0 rfl) rfl rfl ?_
     refine T.leave .list (wantsNot rfl rfl rfl rfl) rfl ?_
     refine T.pickF .list rfl (wants0 rfl) rfl rfl rfl rfl ?_
     refine T.move .list rfl (wants0 rfl) rfl rfl ?_
     refine T.leave .list (wantsNot rfl rfl rfl rfl) rfl ?_
     refine T.leave .list (wantsNot rfl rfl rfl rfl) rfl ?_
     refine T.pickF .list rfl (wants0 rfl) rfl rfl rfl rfl ?_
     refine T.assign .list rfl (wants0 rfl) rfl rfl ?_
     refine T.nil ?_
     refine T.then_normal ?_
     refine T.ret ?_
     obtain rfl := inv_some hr
     refine T.pick [] 14 rfl rfl (Nat.le_add_left _ _) rfl ?_
     refine T.ret1 rfl rfl (fun w hS => ⟨(), rfl, hS⟩)
   ·replace hr := inv_negB hb2 hr
    refine T.leave .list (wantsNot rfl rfl rfl hb2) rfl ?_
    refine T.pickF .list rfl (wants0 rfl) rfl rfl hb2 rfl ?_
    refine T.move .list rfl (wants0 rfl) rfl rfl ?_
    refine T.leave .list (wantsNot rfl rfl rfl rfl) rfl ?_
    refine T.leave .list (wantsNot rfl rfl rfl rfl) rfl ?_
    refine T.pickF .list rfl (wants0 rfl) rfl rfl rfl rfl ?_
    refine T.move .list rfl (wants0 rfl) rfl rfl ?_
    refine T.leave .list (wantsNot rfl rfl rfl rfl) rfl ?_
    refine T.leave .list (wantsNot rfl rfl rfl rfl) rfl ?_
    refine T.pickF .list rfl (wants0 rfl) rfl rfl rfl rfl ?_
    refine T.move .list rfl (wants0 rfl) rfl rfl ?_
    refine T.leave .list (wantsNot rfl rfl rfl rfl) rfl ?_
    refine T.leave .list (wantsNot rfl rfl rfl rfl) rfl ?_
    refine T.pickF .list rfl (wants0 rfl) rfl rfl rfl rfl ?_
    refine T.move .list rfl (wants0 rfl) rfl rfl ?_
    refine T.leave .list (wantsNot rfl rfl rfl rfl) rfl ?_
    refine T.leave .list (wantsNot rfl rfl rfl rfl) rfl ?_
    refine T.leave .list (wantsNot rfl rfl rfl rfl) rfl ?_
    refine T.pickF .list rfl (wants0 rfl) rfl rfl rfl rfl ?_
    refine T.move .list rfl (wants0 rfl) rfl rfl ?_
    refine T.leave .list (wantsNot rfl rfl rfl rfl) rfl ?_
    refine T.leave .list (wantsNot rfl rfl rfl rfl) rfl ?_
    refine T.pickF .list rfl (wants0 rfl) rfl rfl rfl rfl ?_
    refine T.move .list rfl (wants0 rfl) rfl rfl ?_
    refine T.leave .list (wantsNot rfl rfl rfl rfl) rfl ?_
    refine T.leave .list (wantsNot rfl rfl rfl rfl) rfl ?_
    refine T.pickF .list rfl (wants0 rfl) rfl rfl rfl rfl ?_
    refine T.move .list rfl (wants0 rfl) rfl rfl ?_
    refine T.leave .list (wantsNot rfl rfl rfl rfl) rfl ?_
    refine T.leave .list (wantsNot rfl rfl rfl rfl) rfl ?_
    refine T.pickF .list rfl (wants0 rfl) rfl rfl rfl rfl ?_
    refine T.move .list rfl (wants0 rfl) rfl rfl ?_
    refine T.leave .list (wantsNot rfl rfl rfl rfl) rfl ?_
    refine T.pickF .list rfl (wants0 rfl) rfl rfl rfl rfl ?_
    refine T.move .list rfl (wants0 rfl) rfl rfl ?_
    refine T.leave .list (wantsNot rfl rfl rfl rfl) rfl ?_
    refine T.leave .list (wantsNot rfl rfl rfl rfl) rfl ?_
    refine T.pickF .list rfl (wants0 rfl) rfl rfl rfl rfl ?_
    refine T.move .list rfl (wants0 rfl) rfl rfl ?_
    refine T.leave .list (wantsNot rfl rfl rfl rfl) rfl ?_
    refine T.leave .list (wantsNot rfl rfl rfl rfl) rfl ?_
    refine T.pickF .list rfl (wants0 rfl) rfl rfl rfl rfl ?_
    refine T.move .list rfl (wants0 rfl) rfl rfl ?_
    refine T.leave .list (wantsNot rfl rfl rfl rfl) rfl ?_
    refine T.pickF .list rfl (wants0 rfl) rfl rfl rfl rfl ?_
    refine T.move .list rfl (wants0 rfl) rfl rfl ?_
    refine T.leave .list (wantsNot rfl rfl rfl rfl) rfl ?_
    refine T.leave .list (wantsNot rfl rfl rfl rfl) rfl ?_
    refine T.pickF .list rfl (wants0 rfl) rfl rfl rfl rfl ?_
    refine T.assign .list rfl (wants0 rfl) rfl rfl ?_
    refine T.nil ?_
    refine T.then_normal ?_
    refine T.ret ?_
    obtain rfl := inv_some hr
    refine T.pick [] 14 rfl rfl (Nat.le_add_left _ _) rfl ?_
    refine T.ret1 rfl rfl (fun w hS => ⟨(), rfl, hS⟩)
  ·replace hr := inv_negB hb1 hr
   refine T.leave .list (wantsNot rfl rfl rfl hb1) rfl ?_
   refine T.leave .list (wantsNot rfl rfl rfl hb1) rfl ?_
   refine T.pickF .list rfl (wants0 rfl) rfl rfl hb1 rfl ?_
   refine T.move .list rfl (wants0 rfl) rfl rfl ?_
   refine T.leave .list (wantsNot rfl rfl rfl rfl) rfl ?_
   refine T.pickF .list rfl (wants0 rfl) rfl rfl rfl rfl ?_
   refine T.move .list rfl (wants0 rfl) rfl rfl ?_
   refine T.leave .list (wantsNot rfl rfl rfl rfl) rfl ?_
   refine T.leave .list (wantsNot rfl rfl rfl rfl) rfl ?_
   refine T.pickF .list rfl (wants0 rfl) rfl rfl rfl rfl ?_
   refine T.move .list rfl (wants0 rfl) rfl rfl ?_
   refine T.leave .list (wantsNot rfl rfl rfl rfl) rfl ?_
   refine T.leave .list (wantsNot rfl rfl rfl rfl) rfl ?_
   refine T.pickF .list rfl (wants0 rfl) rfl rfl rfl rfl ?_
   refine T.move .list rfl (wants0 rfl) rfl rfl ?_
   refine T.leave .list (wantsNot rfl rfl rfl rfl) rfl ?_
   refine T.leave .list (wantsNot rfl rfl rfl rfl) rfl ?_
   refine T.pickF .list rfl (wants0 rfl) rfl rfl rfl rfl ?_
   refine T.move .list rfl (wants0 rfl) rfl rfl ?_
   refine T.leave .list (wantsNot rfl rfl rfl rfl) rfl ?_
   refine T.leave .list (wantsNot rfl rfl rfl rfl) rfl ?_
   refine T.leave .list (wantsNot rfl rfl rfl rfl) rfl ?_
   refine T.pickF .list rfl (wants0 rfl) rfl rfl rfl rfl ?_
   refine T.move .list rfl (wants0 rfl) rfl rfl ?_
   refine T.leave .list (wantsNot rfl rfl rfl rfl) rfl ?_
   refine T.leave .list (wantsNot rfl rfl rfl rfl) rfl ?_
   refine T.pickF .list rfl (wants0 rfl) rfl rfl rfl rfl ?_
   refine T.move .list rfl (wants0 rfl) rfl rfl ?_
   refine T.leave .list (wantsNot rfl rfl rfl rfl) rfl ?_
   refine T.leave .list (wantsNot rfl rfl rfl rfl) rfl ?_
   refine T.pickF .list rfl (wants0 rfl) rfl rfl rfl rfl ?_
   refine T.move .list rfl (wants0 rfl) rfl rfl ?_
   refine T.leave .list (wantsNot rfl rfl rfl rfl) rfl ?_
   refine T.leave .list (wantsNot rfl rfl rfl rfl) rfl ?_
   refine T.pickF .list rfl (wants0 rfl) rfl rfl rfl rfl ?_
   refine T.move .list rfl (wants0 rfl) rfl rfl ?_
   refine T.leave .list (wantsNot rfl rfl rfl rfl) rfl ?_
   refine T.pickF .list rfl (wants0 rfl) rfl rfl rfl rfl ?_
   refine T.move .list rfl (wants0 rfl) rfl rfl ?_
   refine T.leave .list (wantsNot rfl rfl rfl rfl) rfl ?_
   refine T.leave .list (wantsNot rfl rfl rfl rfl) rfl ?_
   refine T.pickF .list rfl (wants0 rfl) rfl rfl rfl rfl ?_
   refine T.move .list rfl (wants0 rfl) rfl rfl ?_
   refine T.leave .list (wantsNot rfl rfl rfl rfl) rfl ?_
   refine T.leave .list (wantsNot rfl rfl rfl rfl) rfl ?_
   refine T.pickF .list rfl (wants0 rfl) rfl rfl rfl rfl ?_
   refine T.move .list rfl (wants0 rfl) rfl rfl ?_
   refine T.leave .list (wantsNot rfl rfl rfl rfl) rfl ?_
   refine T.pickF .list rfl (wants0 rfl) rfl rfl rfl rfl ?_
   refine T.move .list rfl (wants0 rfl) rfl rfl ?_
   refine T.leave .list (wantsNot rfl rfl rfl rfl) rfl ?_
   refine T.leave .list (wantsNot rfl rfl rfl rfl) rfl ?_
   refine T.pickF .list rfl (wants0 rfl) rfl rfl rfl rfl ?_
   refine T.assign .list rfl (wants0 rfl) rfl rfl ?_
   refine T.nil ?_
   refine T.then_normal ?_
   refine T.ret ?_
   obtain rfl := inv_some hr
   refine T.pick [] 14 rfl rfl (Nat.le_add_left _ _) rfl ?_
   refine T.ret1 rfl rfl (fun w hS => ⟨(), rfl, hS⟩)

noncomputable def ref19_None.impl  : Option ((Int × Int × Int)) :=
  some (-1, 0, 0)
set_option maxRecDepth 100000 in
set_option maxHeartbeats 4000000 in
theorem ref19_None.c {B : World} {hs : List MP} {w : World} (hS : St B (hs) w) {r : (Int × Int × Int)} (hr : ref19_None.impl  = some r) :
    Calls Try.prog 8 #[] w fun e w' => ∃ x : Unit, e = .returned (.agg #[.int .i64 r.1, .int .i64 r.2.1, .int .i64 r.2.2]) ∧ St B (hs) w' := by
 unfold ref19_None.impl at hr
 refine calls_T Try.func8 rfl rfl rfl hS ?_
 refine T.seq ?_
 refine T.region ?_
 refine T.allocS .list rfl (wants0 rfl) rfl (cs := [.int .i64 0, .int .i64 0, .int .i64 0]) rfl (fun b1 => ?_)
 refine T.nil ?_
 refine T.then_normal ?_
 refine T.seq ?_
 refine T.region ?_
 refine T.build .list (vals := [(0, .int .i64 (-1))]) (cells := #[.int .i64 (-1), .int .i64 0, .int .i64 0]) rfl (wants0 rfl) rfl rfl (run_buildStruct (sizes := [1, 1, 1]) (by kernel_rfl) (by kernel_rfl)) ?_
 refine T.store .list 0 rfl rfl (wants0 rfl) rfl rfl rfl rfl (Nat.le_of_ble_eq_true rfl) rfl (cs' := [.int .i64 (-1), .int .i64 0, .int .i64 0]) rfl rfl ?_
 refine T.nil ?_
 refine T.then_normal ?_
 refine T.ret ?_
 obtain rfl := inv_some hr
 refine T.out1 rfl (OutRun.cellN 0 rfl rfl (vs := [.int .i64 (-1), .int .i64 0, .int .i64 0]) rfl rfl) (fun w hS => ⟨(), rfl, hS.pick [] 1 rfl rfl (Nat.le_add_left _ _) rfl⟩)

noncomputable def ref19_Grant.k1 (a0 : Int × Int × Int) (a1 : Int) (a2 : Int) (a3 : Int) (s1 : Bool) : Option ((Int × Int × Int) × Bool) :=
  (if s1 = true then some ((a0.1, a0.2.1, a0.2.2), false) else some ((a1, a2, a3), true))
noncomputable def ref19_Grant.impl (a0 : Int × Int × Int) (a1 : Int) (a2 : Int) (a3 : Int) : Option ((Int × Int × Int) × Bool) :=
  (if ((decide ((0 : Int) ≤ a0.1))) = true then ref19_Grant.k1 a0 a1 a2 a3 (!(decide (a0.1 = a1))) else ref19_Grant.k1 a0 a1 a2 a3 false)
set_option maxRecDepth 100000 in
set_option maxHeartbeats 4000000 in
theorem ref19_Grant.c {B : World} {hs : List MP} {w : World} {a0 : Int × Int × Int} {a1 : Int} {a2 : Int} {a3 : Int} (hS : St B (hs) w) {r : (Int × Int × Int) × Bool} (hr : ref19_Grant.impl a0 a1 a2 a3 = some r) :
    Calls Try.prog 10 #[.agg #[.int .i64 a0.1, .int .i64 a0.2.1, .int .i64 a0.2.2], .int .i64 a1, .int .i64 a2, .int .i64 a3] w fun e w' => ∃ x : Unit, e = .returned (.tuple #[.agg #[.int .i64 r.1.1, .int .i64 r.1.2.1, .int .i64 r.1.2.2], .bool r.2]) ∧ St B (hs) w' := by
 unfold ref19_Grant.impl at hr
 refine calls_T Try.func10 rfl rfl rfl hS ?_
 refine T.seq ?_
 refine T.region ?_
 refine T.boxS .list rfl (wants0 rfl) rfl rfl (cs := [.int .i64 a0.1, .int .i64 a0.2.1, .int .i64 a0.2.2]) rfl (fun b1 => ?_)
 refine T.allocS .list rfl (wants0 rfl) rfl (cs := [.int .i64 0, .int .i64 0, .int .i64 0]) rfl (fun b2 => ?_)
 refine T.assign .list rfl (wants0 rfl) rfl rfl ?_
 refine T.nil ?_
 refine T.then_normal ?_
 refine T.seq ?_
 refine T.seqJ (fun (s1 : Bool) (x1 : Unit) => [(1, .int .i64 a1), (2, .int .i64 a2), (3, .int .i64 a3), (4, .pointer (some ⟨b1, 0, none⟩)), (8, .pointer (some ⟨b2, 0, none⟩)), (18, .bool s1)]) (fun s1 x1 => Cl b1 28 [.int .i64 a0.1, .int .i64 a0.2.1, .int .i64 a0.2.2] :: Cl b2 28 [.int .i64 0, .int .i64 0, .int .i64 0] :: hs) (fun s1 => ref19_Grant.k1 a0 a1 a2 a3 s1 = some r) (fun s1 x1 hk1 => ?_) (fun J1 => ?_)
 ·unfold ref19_Grant.k1 at hk1
  refine T.cond rfl (fun hb1 => ?_) (fun hb1 => ?_)
  ·replace hk1 := inv_posB hb1 hk1
   refine T.seq ?_
   refine T.region ?_
   refine T.loadN .list 0 rfl rfl (wants0 rfl) rfl rfl (vs := [.int .i64 a0.1, .int .i64 a0.2.1, .int .i64 a0.2.2]) rfl rfl ?_
   refine T.store .list 1 rfl rfl (wants0 rfl) rfl rfl rfl rfl (Nat.le_of_ble_eq_true rfl) rfl (cs' := [.int .i64 a0.1, .int .i64 a0.2.1, .int .i64 a0.2.2]) rfl rfl ?_
   refine T.assign .list rfl (wants0 rfl) rfl rfl ?_
   refine T.nil ?_
   refine T.then_normal ?_
   refine T.ret ?_
   refine T.then_ret ?_
   obtain rfl := inv_some hk1
   refine T.out2 rfl (OutRun.cellN 1 rfl rfl (vs := [.int .i64 a0.1, .int .i64 a0.2.1, .int .i64 a0.2.2]) rfl rfl) (OutRun.tmp rfl) (fun w hS => ⟨(), rfl, hS.pick [] 2 rfl rfl (Nat.le_add_left _ _) rfl⟩)
  ·replace hk1 := inv_negB hb1 hk1
   refine T.skip ?_
   refine T.then_normal ?_
   refine T.seq ?_
   refine T.region ?_
   refine T.move .list rfl (wants0 rfl) rfl rfl ?_
   refine T.move .list rfl (wants0 rfl) rfl rfl ?_
   refine T.move .list rfl (wants0 rfl) rfl rfl ?_
   refine T.build .list (vals := [(0, .int .i64 a1), (1, .int .i64 a2), (2, .int .i64 a3)]) (cells := #[.int .i64 a1, .int .i64 a2, .int .i64 a3]) rfl (wants0 rfl) rfl rfl (run_buildStruct (sizes := [1, 1, 1]) (by kernel_rfl) (by kernel_rfl)) ?_
   refine T.store .list 1 rfl rfl (wants0 rfl) rfl rfl rfl rfl (Nat.le_of_ble_eq_true rfl) rfl (cs' := [.int .i64 a1, .int .i64 a2, .int .i64 a3]) rfl rfl ?_
   refine T.assign .list rfl (wants0 rfl) rfl rfl ?_
   refine T.nil ?_
   refine T.then_normal ?_
   refine T.ret ?_
   obtain rfl := inv_some hk1
   refine T.out2 rfl (OutRun.cellN 1 rfl rfl (vs := [.int .i64 a1, .int .i64 a2, .int .i64 a3]) rfl rfl) (OutRun.tmp rfl) (fun w hS => ⟨(), rfl, hS.pick [] 2 rfl rfl (Nat.le_add_left _ _) rfl⟩)
 ·refine T.region ?_
  refine T.field .list rfl (wants0 rfl) rfl rfl ?_
  refine T.load .list 1 rfl rfl (wants0 rfl) rfl rfl rfl ?_
  refine T.bin .list rfl (wants0 rfl) rfl rfl rfl rfl ?_
  refine T.move .list rfl (wants0 rfl) rfl rfl ?_
  refine T.bool (b := (decide ((0 : Int) ≤ a0.1))) (fun hb2 => ?_) (fun hb2 => ?_)
  ·replace hr := inv_posB hb2 hr
   refine T.field .list rfl (wants1 rfl rfl rfl hb2) rfl rfl ?_
   refine T.load .list 1 rfl rfl (wants1 rfl rfl rfl hb2) rfl rfl rfl ?_
   refine T.move .list rfl (wants1 rfl rfl rfl hb2) rfl rfl ?_
   refine T.bin .list rfl (wants1 rfl rfl rfl hb2) rfl rfl rfl rfl ?_
   refine T.pickT .list rfl (wants0 rfl) rfl rfl hb2 rfl ?_
   refine T.nil ?_
   refine T.then_normal ?_
   exact T.le (EnvLe.cons rfl (EnvLe.cons rfl (EnvLe.cons rfl (EnvLe.cons rfl (EnvLe.cons rfl (EnvLe.cons rfl EnvLe.nil)))))) (T.pick [1, 0] 2 rfl rfl (Nat.le_add_left _ _) rfl (J1 (!(decide (a0.1 = a1))) () hr))
  ·replace hr := inv_negB hb2 hr
   refine T.leave .list (wantsNot rfl rfl rfl hb2) rfl ?_
   refine T.leave .list (wantsNot rfl rfl rfl hb2) rfl ?_
   refine T.leave .list (wantsNot rfl rfl rfl hb2) rfl ?_
   refine T.leave .list (wantsNot rfl rfl rfl hb2) rfl ?_
   refine T.pickF .list rfl (wants0 rfl) rfl rfl hb2 rfl ?_
   refine T.nil ?_
   refine T.then_normal ?_
   exact T.le (EnvLe.cons rfl (EnvLe.cons rfl (EnvLe.cons rfl (EnvLe.cons rfl (EnvLe.cons rfl (EnvLe.cons rfl EnvLe.nil)))))) (T.pick [1, 0] 2 rfl rfl (Nat.le_add_left _ _) rfl (J1 false () hr))

noncomputable def ref19_End.k1 (a0 : Int × Int × Int) (s1 : Bool) : Option ((Int × Int × Int) × Bool) :=
  (if s1 = true then some ((a0.1, a0.2.1, a0.2.2), false) else (ref19_None.impl ).bind fun r1 => some ((r1.1, r1.2.1, r1.2.2), true))
noncomputable def ref19_End.impl (a0 : Int × Int × Int) (a1 : Int) : Option ((Int × Int × Int) × Bool) :=
  (if ((decide (a0.1 < 0))) = true then ref19_End.k1 a0 true else ref19_End.k1 a0 (!(decide (a0.2.2 = a1))))
set_option maxRecDepth 100000 in
set_option maxHeartbeats 4000000 in
theorem ref19_End.c {B : World} {hs : List MP} {w : World} {a0 : Int × Int × Int} {a1 : Int} (hS : St B (hs) w) {r : (Int × Int × Int) × Bool} (hr : ref19_End.impl a0 a1 = some r) :
    Calls Try.prog 12 #[.agg #[.int .i64 a0.1, .int .i64 a0.2.1, .int .i64 a0.2.2], .int .i64 a1] w fun e w' => ∃ x : Unit, e = .returned (.tuple #[.agg #[.int .i64 r.1.1, .int .i64 r.1.2.1, .int .i64 r.1.2.2], .bool r.2]) ∧ St B (hs) w' := by
 unfold ref19_End.impl at hr
 refine calls_T Try.func12 rfl rfl rfl hS ?_
 refine T.seq ?_
 refine T.region ?_
 refine T.boxS .list rfl (wants0 rfl) rfl rfl (cs := [.int .i64 a0.1, .int .i64 a0.2.1, .int .i64 a0.2.2]) rfl (fun b1 => ?_)
 refine T.allocS .list rfl (wants0 rfl) rfl (cs := [.int .i64 0, .int .i64 0, .int .i64 0]) rfl (fun b2 => ?_)
 refine T.assign .list rfl (wants0 rfl) rfl rfl ?_
 refine T.nil ?_
 refine T.then_normal ?_
 refine T.seq ?_
 refine T.seqJ (fun (s1 : Bool) (x1 : Unit) => [(2, .pointer (some ⟨b1, 0, none⟩)), (4, .pointer (some ⟨b2, 0, none⟩)), (14, .bool s1)]) (fun s1 x1 => Cl b1 28 [.int .i64 a0.1, .int .i64 a0.2.1, .int .i64 a0.2.2] :: Cl b2 28 [.int .i64 0, .int .i64 0, .int .i64 0] :: hs) (fun s1 => ref19_End.k1 a0 s1 = some r) (fun s1 x1 hk1 => ?_) (fun J1 => ?_)
 ·unfold ref19_End.k1 at hk1
  refine T.cond rfl (fun hb1 => ?_) (fun hb1 => ?_)
  ·replace hk1 := inv_posB hb1 hk1
   refine T.seq ?_
   refine T.region ?_
   refine T.loadN .list 0 rfl rfl (wants0 rfl) rfl rfl (vs := [.int .i64 a0.1, .int .i64 a0.2.1, .int .i64 a0.2.2]) rfl rfl ?_
   refine T.store .list 1 rfl rfl (wants0 rfl) rfl rfl rfl rfl (Nat.le_of_ble_eq_true rfl) rfl (cs' := [.int .i64 a0.1, .int .i64 a0.2.1, .int .i64 a0.2.2]) rfl rfl ?_
   refine T.assign .list rfl (wants0 rfl) rfl rfl ?_
   refine T.nil ?_
   refine T.then_normal ?_
   refine T.ret ?_
   refine T.then_ret ?_
   obtain rfl := inv_some hk1
   refine T.out2 rfl (OutRun.cellN 1 rfl rfl (vs := [.int .i64 a0.1, .int .i64 a0.2.1, .int .i64 a0.2.2]) rfl rfl) (OutRun.tmp rfl) (fun w hS => ⟨(), rfl, hS.pick [] 2 rfl rfl (Nat.le_add_left _ _) rfl⟩)
  ·replace hk1 := inv_negB hb1 hk1
   refine T.skip ?_
   refine T.then_normal ?_
   refine T.seq ?_
   refine T.region ?_
   obtain ⟨r1, hg1, hk1⟩ := inv_bind hk1
   refine T.call .list (wants0 rfl) rfl (run_callF (vs := []) rfl Try.func8 rfl (by decide) rfl) (fun w hS => ref19_None.c hS  hg1) (fun x2 => ?_)
   refine T.store .list 1 rfl rfl (wants0 rfl) rfl rfl rfl rfl (Nat.le_of_ble_eq_true rfl) rfl (cs' := [.int .i64 r1.1, .int .i64 r1.2.1, .int .i64 r1.2.2]) rfl rfl ?_
   refine T.assign .list rfl (wants0 rfl) rfl rfl ?_
   refine T.nil ?_
   refine T.then_normal ?_
   refine T.ret ?_
   obtain rfl := inv_some hk1
   refine T.out2 rfl (OutRun.cellN 1 rfl rfl (vs := [.int .i64 r1.1, .int .i64 r1.2.1, .int .i64 r1.2.2]) rfl rfl) (OutRun.tmp rfl) (fun w hS => ⟨(), rfl, hS.pick [] 2 rfl rfl (Nat.le_add_left _ _) rfl⟩)
 ·refine T.region ?_
  refine T.field .list rfl (wants0 rfl) rfl rfl ?_
  refine T.load .list 1 rfl rfl (wants0 rfl) rfl rfl rfl ?_
  refine T.bin .list rfl (wants0 rfl) rfl rfl rfl rfl ?_
  refine T.move .list rfl (wants0 rfl) rfl rfl ?_
  refine T.bool (b := (decide (a0.1 < 0))) (fun hb2 => ?_) (fun hb2 => ?_)
  ·replace hr := inv_posB hb2 hr
   refine T.leave .list (wantsNot rfl rfl rfl hb2) rfl ?_
   refine T.leave .list (wantsNot rfl rfl rfl hb2) rfl ?_
   refine T.leave .list (wantsNot rfl rfl rfl hb2) rfl ?_
   refine T.leave .list (wantsNot rfl rfl rfl hb2) rfl ?_
   refine T.pickT .list rfl (wants0 rfl) rfl rfl hb2 rfl ?_
   refine T.nil ?_
   refine T.then_normal ?_
   exact T.le (EnvLe.cons rfl (EnvLe.cons rfl (EnvLe.cons rfl EnvLe.nil))) (T.pick [1, 0] 2 rfl rfl (Nat.le_add_left _ _) rfl (J1 true () hr))
  ·replace hr := inv_negB hb2 hr
   refine T.field .list rfl (wants1 rfl rfl rfl hb2) rfl rfl ?_
   refine T.load .list 1 rfl rfl (wants1 rfl rfl rfl hb2) rfl rfl rfl ?_
   refine T.move .list rfl (wants1 rfl rfl rfl hb2) rfl rfl ?_
   refine T.bin .list rfl (wants1 rfl rfl rfl hb2) rfl rfl rfl rfl ?_
   refine T.pickF .list rfl (wants0 rfl) rfl rfl hb2 rfl ?_
   refine T.nil ?_
   refine T.then_normal ?_
   exact T.le (EnvLe.cons rfl (EnvLe.cons rfl (EnvLe.cons rfl EnvLe.nil))) (T.pick [1, 0] 2 rfl rfl (Nat.le_add_left _ _) rfl (J1 (!(decide (a0.2.2 = a1))) () hr))

noncomputable def ref19_May.impl (a0 : Int × Int × Int) (a1 : Int) : Option Bool :=
  (if ((decide (a0.1 = (-1)))) = true then some true else some (decide (a0.1 = a1)))
set_option maxRecDepth 100000 in
set_option maxHeartbeats 4000000 in
theorem ref19_May.c {B : World} {hs : List MP} {w : World} {a0 : Int × Int × Int} {a1 : Int} (hS : St B (hs) w) {r : Bool} (hr : ref19_May.impl a0 a1 = some r) :
    Calls Try.prog 15 #[.agg #[.int .i64 a0.1, .int .i64 a0.2.1, .int .i64 a0.2.2], .int .i64 a1] w fun e w' => ∃ x : Unit, e = .returned (.bool r) ∧ St B (hs) w' := by
 unfold ref19_May.impl at hr
 refine calls_T Try.func15 rfl rfl rfl hS ?_
 refine T.seq ?_
 refine T.region ?_
 refine T.boxS .list rfl (wants0 rfl) rfl rfl (cs := [.int .i64 a0.1, .int .i64 a0.2.1, .int .i64 a0.2.2]) rfl (fun b1 => ?_)
 refine T.assign .list rfl (wants0 rfl) rfl rfl ?_
 refine T.nil ?_
 refine T.then_normal ?_
 refine T.seq ?_
 refine T.region ?_
 refine T.field .list rfl (wants0 rfl) rfl rfl ?_
 refine T.load .list 0 rfl rfl (wants0 rfl) rfl rfl rfl ?_
 refine T.bin .list rfl (wants0 rfl) rfl rfl rfl rfl ?_
 refine T.move .list rfl (wants0 rfl) rfl rfl ?_
 refine T.bool (b := (decide (a0.1 = (-1)))) (fun hb1 => ?_) (fun hb1 => ?_)
 ·replace hr := inv_posB hb1 hr
  refine T.leave .list (wantsNot rfl rfl rfl hb1) rfl ?_
  refine T.leave .list (wantsNot rfl rfl rfl hb1) rfl ?_
  refine T.leave .list (wantsNot rfl rfl rfl hb1) rfl ?_
  refine T.leave .list (wantsNot rfl rfl rfl hb1) rfl ?_
  refine T.pickT .list rfl (wants0 rfl) rfl rfl hb1 rfl ?_
  refine T.assign .list rfl (wants0 rfl) rfl rfl ?_
  refine T.nil ?_
  refine T.then_normal ?_
  refine T.ret ?_
  obtain rfl := inv_some hr
  refine T.pick [] 1 rfl rfl (Nat.le_add_left _ _) rfl ?_
  refine T.ret1 rfl rfl (fun w hS => ⟨(), rfl, hS⟩)
 ·replace hr := inv_negB hb1 hr
  refine T.field .list rfl (wants1 rfl rfl rfl hb1) rfl rfl ?_
  refine T.load .list 0 rfl rfl (wants1 rfl rfl rfl hb1) rfl rfl rfl ?_
  refine T.move .list rfl (wants1 rfl rfl rfl hb1) rfl rfl ?_
  refine T.bin .list rfl (wants1 rfl rfl rfl hb1) rfl rfl rfl rfl ?_
  refine T.pickF .list rfl (wants0 rfl) rfl rfl hb1 rfl ?_
  refine T.assign .list rfl (wants0 rfl) rfl rfl ?_
  refine T.nil ?_
  refine T.then_normal ?_
  refine T.ret ?_
  obtain rfl := inv_some hr
  refine T.pick [] 1 rfl rfl (Nat.le_add_left _ _) rfl ?_
  refine T.ret1 rfl rfl (fun w hS => ⟨(), rfl, hS⟩)

noncomputable def ref19_fine.impl (a0 : Int) (a1 : Int) (a2 : Int) (a3 : Int) : Option Bool :=
  (if ((decide ((0 : Int) ≤ a0))) = true then (if ((decide (a0 ≤ 1099511627776))) = true then (if ((decide ((0 : Int) ≤ a1))) = true then (if ((decide (a1 ≤ 1099511627776))) = true then (if ((decide ((1 : Int) ≤ a2))) = true then (if ((decide (a2 ≤ 1048576))) = true then (if ((decide ((0 : Int) ≤ a3))) = true then some (decide (a3 ≤ 500)) else some false) else some false) else some false) else some false) else some false) else some false) else some false)
set_option maxRecDepth 100000 in
set_option maxHeartbeats 4000000 in
theorem ref19_fine.c {B : World} {hs : List MP} {w : World} {a0 : Int} {a1 : Int} {a2 : Int} {a3 : Int} (hS : St B (hs) w) {r : Bool} (hr : ref19_fine.impl a0 a1 a2 a3 = some r) :
    Calls Try.prog 34 #[.int .i64 a0, .int .i64 a1, .int .i64 a2, .int .i64 a3] w fun e w' => ∃ x : Unit, e = .returned (.bool r) ∧ St B (hs) w' := by
 unfold ref19_fine.impl at hr
 refine calls_T Try.func34 rfl rfl rfl hS ?_
 refine T.seq ?_
 refine T.region ?_
 refine T.assign .list rfl (wants0 rfl) rfl rfl ?_
 refine T.nil ?_
 refine T.then_normal ?_
 refine T.seq ?_
 refine T.region ?_
 refine T.move .list rfl (wants0 rfl) rfl rfl ?_
 refine T.bin .list rfl (wants0 rfl) rfl rfl rfl rfl ?_
 refine T.move .list rfl (wants0 rfl) rfl rfl ?_
 refine T.bool (b := (decide ((0 : Int) ≤ a0))) (fun hb1 => ?_) (fun hb1 => ?_)
 ·replace hr := inv_posB hb1 hr
  refine T.move .list rfl (wants1 rfl rfl rfl hb1) rfl rfl ?_
  refine T.bin .list rfl (wants1 rfl rfl rfl hb1) rfl rfl rfl rfl ?_
  refine T.pickT .list rfl (wants0 rfl) rfl rfl hb1 rfl ?_
  refine T.move .list rfl (wants0 rfl) rfl rfl ?_
  refine T.bool (b := (decide (a0 ≤ 1099511627776))) (fun hb2 => ?_) (fun hb2 => ?_)
  ·replace hr := inv_posB hb2 hr
   refine T.move .list rfl (wants1 rfl rfl rfl hb2) rfl rfl ?_
   refine T.bin .list rfl (wants1 rfl rfl rfl hb2) rfl rfl rfl rfl ?_
   refine T.pickT .list rfl (wants0 rfl) rfl rfl hb2 rfl ?_
   refine T.move .list rfl (wants0 rfl) rfl rfl ?_
   refine T.bool (b := (decide ((0 : Int) ≤ a1))) (fun hb3 => ?_) (fun hb3 => ?_)
   ·replace hr := inv_posB hb3 hr
    refine T.move .list rfl (wants1 rfl rfl rfl hb3) rfl rfl ?_
    refine T.bin .list rfl (wants1 rfl rfl rfl hb3) rfl rfl rfl rfl ?_
    refine T.pickT .list rfl (wants0 rfl) rfl rfl hb3 rfl ?_
    refine T.move .list rfl (wants0 rfl) rfl rfl ?_
    refine T.bool (b := (decide (a1 ≤ 1099511627776))) (fun hb4 => ?_) (fun hb4 => ?_)
    ·replace hr := inv_posB hb4 hr
     refine T.move .list rfl (wants1 rfl rfl rfl hb4) rfl rfl ?_
     refine T.bin .list rfl (wants1 rfl rfl rfl hb4) rfl rfl rfl rfl ?_
     refine T.pickT .list rfl (wants0 rfl) rfl rfl hb4 rfl ?_
     refine T.move .list rfl (wants0 rfl) rfl rfl ?_
     refine T.bool (b := (decide ((1 : Int) ≤ a2))) (fun hb5 => ?_) (fun hb5 => ?_)
     ·replace hr := inv_posB hb5 hr
      refine T.move .list rfl (wants1 rfl rfl rfl hb5) rfl rfl ?_
      refine T.bin .list rfl (wants1 rfl rfl rfl hb5) rfl rfl rfl rfl ?_
      refine T.pickT .list rfl (wants0 rfl) rfl rfl hb5 rfl ?_
      refine T.move .list rfl (wants0 rfl) rfl rfl ?_
      refine T.bool (b := (decide (a2 ≤ 1048576))) (fun hb6 => ?_) (fun hb6 => ?_)
      ·replace hr := inv_posB hb6 hr
       refine T.move .list rfl (wants1 rfl rfl rfl hb6) rfl rfl ?_
       refine T.bin .list rfl (wants1 rfl rfl rfl hb6) rfl rfl rfl rfl ?_
       refine T.pickT .list rfl (wants0 rfl) rfl rfl hb6 rfl ?_
       refine T.move .list rfl (wants0 rfl) rfl rfl ?_
       refine T.bool (b := (decide ((0 : Int) ≤ a3))) (fun hb7 => ?_) (fun hb7 => ?_)
       ·replace hr := inv_posB hb7 hr
        refine T.move .list rfl (wants1 rfl rfl rfl hb7) rfl rfl ?_
        refine T.bin .list rfl (wants1 rfl rfl rfl hb7) rfl rfl rfl rfl ?_
        refine T.pickT .list rfl (wants0 rfl) rfl rfl hb7 rfl ?_
        refine T.assign .list rfl (wants0 rfl) rfl rfl ?_
        refine T.nil ?_
        refine T.then_normal ?_
        refine T.ret ?_
        obtain rfl := inv_some hr
        refine T.pick [] 0 rfl rfl (Nat.le_add_left _ _) rfl ?_
        refine T.ret1 rfl rfl (fun w hS => ⟨(), rfl, hS⟩)
       ·replace hr := inv_negB hb7 hr
        refine T.leave .list (wantsNot rfl rfl rfl hb7) rfl ?_
        refine T.leave .list (wantsNot rfl rfl rfl hb7) rfl ?_
        refine T.pickF .list rfl (wants0 rfl) rfl rfl hb7 rfl ?_
        refine T.assign .list rfl (wants0 rfl) rfl rfl ?_
        refine T.nil ?_
        refine T.then_normal ?_
        refine T.ret ?_
        obtain rfl := inv_some hr
        refine T.pick [] 0 rfl rfl (Nat.le_add_left _ _) rfl ?_
        refine T.ret1 rfl rfl (fun w hS => ⟨(), rfl, hS⟩)
      ·replace hr := inv_negB hb6 hr
       refine T.leave .list (wantsNot rfl rfl rfl hb6) rfl ?_
       refine T.leave .list (wantsNot rfl rfl rfl hb6) rfl ?_
       refine T.pickF .list rfl (wants0 rfl) rfl rfl hb6 rfl ?_
       refine T.move .list rfl (wants0 rfl) rfl rfl ?_
       refine T.leave .list (wantsNot rfl rfl rfl rfl) rfl ?_
       refine T.leave .list (wantsNot rfl rfl rfl rfl) rfl ?_
       refine T.pickF .list rfl (wants0 rfl) rfl rfl rfl rfl ?_
       refine T.assign .list rfl (wants0 rfl) rfl rfl ?_
       refine T.nil ?_
       refine T.then_normal ?_
       refine T.ret ?_
       obtain rfl := inv_some hr
       refine T.pick [] 0 rfl rfl (Nat.le_add_left _ _) rfl ?_
       refine T.ret1 rfl rfl (fun w hS => ⟨(), rfl, hS⟩)
     ·replace hr := inv_negB hb5 hr
      refine T.leave .list (wantsNot rfl rfl rfl hb5) rfl ?_
      refine T.leave .list (wantsNot rfl rfl rfl hb5) rfl ?_
      refine T.pickF .list rfl (wants0 rfl) rfl rfl hb5 rfl ?_
      refine T.move .list rfl (wants0 rfl) rfl rfl ?_
      refine T.leave .list (wantsNot rfl rfl rfl rfl) rfl ?_
      refine T.leave .list (wantsNot rfl rfl rfl rfl) rfl ?_
      refine T.pickF .list rfl (wants0 rfl) rfl rfl rfl rfl ?_
      refine T.move .list rfl (wants0 rfl) rfl rfl ?_
      refine T.leave .list (wantsNot rfl rfl rfl rfl) rfl ?_
      refine T.leave .list (wantsNot rfl rfl rfl rfl) rfl ?_
      refine T.pickF .list rfl (wants0 rfl) rfl rfl rfl rfl ?_
      refine T.assign .list rfl (wants0 rfl) rfl rfl ?_
      refine T.nil ?_
      refine T.then_normal ?_
      refine T.ret ?_
      obtain rfl := inv_some hr
      refine T.pick [] 0 rfl rfl (Nat.le_add_left _ _) rfl ?_
      refine T.ret1 rfl rfl (fun w hS => ⟨(), rfl, hS⟩)
    ·replace hr := inv_negB hb4 hr
     refine T.leave .list (wantsNot rfl rfl rfl hb4) rfl ?_
     refine T.leave .list (wantsNot rfl rfl rfl hb4) rfl ?_
     refine T.pickF .list rfl (wants0 rfl) rfl rfl hb4 rfl ?_
     refine T.move .list rfl (wants0 rfl) rfl rfl ?_
     refine T.leave .list (wantsNot rfl rfl rfl rfl) rfl ?_
     refine T.leave .list (wantsNot rfl rfl rfl rfl) rfl ?_
     refine T.pickF .list rfl (wants0 rfl) rfl rfl rfl rfl ?_
     refine T.move .list rfl (wants0 rfl) rfl rfl ?_
     refine T.leave .list (wantsNot rfl rfl rfl rfl) rfl ?_
     refine T.leave .list (wantsNot rfl rfl rfl rfl) rfl ?_
     refine T.pickF .list rfl (wants0 rfl) rfl rfl rfl rfl ?_
     refine T.move .list rfl (wants0 rfl) rfl rfl ?_
     refine T.leave .list (wantsNot rfl rfl rfl rfl) rfl ?_
     refine T.leave .list (wantsNot rfl rfl rfl rfl) rfl ?_
     refine T.pickF .list rfl (wants0 rfl) rfl rfl rfl rfl ?_
     refine T.assign .list rfl (wants0 rfl) rfl rfl ?_
     refine T.nil ?_
     refine T.then_normal ?_
     refine T.ret ?_
     obtain rfl := inv_some hr
     refine T.pick [] 0 rfl rfl (Nat.le_add_left _ _) rfl ?_
     refine T.ret1 rfl rfl (fun w hS => ⟨(), rfl, hS⟩)
   ·replace hr := inv_negB hb3 hr
    refine T.leave .list (wantsNot rfl rfl rfl hb3) rfl ?_
    refine T.leave .list (wantsNot rfl rfl rfl hb3) rfl ?_
    refine T.pickF .list rfl (wants0 rfl) rfl rfl hb3 rfl ?_
    refine T.move .list rfl (wants0 rfl) rfl rfl ?_
    refine T.leave .list (wantsNot rfl rfl rfl rfl) rfl ?_
    refine T.leave .list (wantsNot rfl rfl rfl rfl) rfl ?_
    refine T.pickF .list rfl (wants0 rfl) rfl rfl rfl rfl ?_
    refine T.move .list rfl (wants0 rfl) rfl rfl ?_
    refine T.leave .list (wantsNot rfl rfl rfl rfl) rfl ?_
    refine T.leave .list (wantsNot rfl rfl rfl rfl) rfl ?_
    refine T.pickF .list rfl (wants0 rfl) rfl rfl rfl rfl ?_
    refine T.move .list rfl (wants0 rfl) rfl rfl ?_
    refine T.leave .list (wantsNot rfl rfl rfl rfl) rfl ?_
    refine T.leave .list (wantsNot rfl rfl rfl rfl) rfl ?_
    refine T.pickF .list rfl (wants0 rfl) rfl rfl rfl rfl ?_
    refine T.move .list rfl (wants0 rfl) rfl rfl ?_
    refine T.leave .list (wantsNot rfl rfl rfl rfl) rfl ?_
    refine T.leave .list (wantsNot rfl rfl rfl rfl) rfl ?_
    refine T.pickF .list rfl (wants0 rfl) rfl rfl rfl rfl ?_
    refine T.assign .list rfl (wants0 rfl) rfl rfl ?_
    refine T.nil ?_
    refine T.then_normal ?_
    refine T.ret ?_
    obtain rfl := inv_some hr
    refine T.pick [] 0 rfl rfl (Nat.le_add_left _ _) rfl ?_
    refine T.ret1 rfl rfl (fun w hS => ⟨(), rfl, hS⟩)
  ·replace hr := inv_negB hb2 hr
   refine T.leave .list (wantsNot rfl rfl rfl hb2) rfl ?_
   refine T.leave .list (wantsNot rfl rfl rfl hb2) rfl ?_
   refine T.pickF .list rfl (wants0 rfl) rfl rfl hb2 rfl ?_
   refine T.move .list rfl (wants0 rfl) rfl rfl ?_
   refine T.leave .list (wantsNot rfl rfl rfl rfl) rfl ?_
   refine T.leave .list (wantsNot rfl rfl rfl rfl) rfl ?_
   refine T.pickF .list rfl (wants0 rfl) rfl rfl rfl rfl ?_
   refine T.move .list rfl (wants0 rfl) rfl rfl ?_
   refine T.leave .list (wantsNot rfl rfl rfl rfl) rfl ?_
   refine T.leave .list (wantsNot rfl rfl rfl rfl) rfl ?_
   refine T.pickF .list rfl (wants0 rfl) rfl rfl rfl rfl ?_
   refine T.move .list rfl (wants0 rfl) rfl rfl ?_
   refine T.leave .list (wantsNot rfl rfl rfl rfl) rfl ?_
   refine T.leave .list (wantsNot rfl rfl rfl rfl) rfl ?_
   refine T.pickF .list rfl (wants0 rfl) rfl rfl rfl rfl ?_
   refine T.move .list rfl (wants0 rfl) rfl rfl ?_
   refine T.leave .list (wantsNot rfl rfl rfl rfl) rfl ?_
   refine T.leave .list (wantsNot rfl rfl rfl rfl) rfl ?_
   refine T.pickF .list rfl (wants0 rfl) rfl rfl rfl rfl ?_
   refine T.move .list rfl (wants0 rfl) rfl rfl ?_
   refine T.leave .list (wantsNot rfl rfl rfl rfl) rfl ?_
   refine T.leave .list (wantsNot rfl rfl rfl rfl) rfl ?_
   refine T.pickF .list rfl (wants0 rfl) rfl rfl rfl rfl ?_
   refine T.assign .list rfl (wants0 rfl) rfl rfl ?_
   refine T.nil ?_
   refine T.then_normal ?_
   refine T.ret ?_
   obtain rfl := inv_some hr
   refine T.pick [] 0 rfl rfl (Nat.le_add_left _ _) rfl ?_
   refine T.ret1 rfl rfl (fun w hS => ⟨(), rfl, hS⟩)
 ·replace hr := inv_negB hb1 hr
  refine T.leave .list (wantsNot rfl rfl rfl hb1) rfl ?_
  refine T.leave .list (wantsNot rfl rfl rfl hb1) rfl ?_
  refine T.pickF .list rfl (wants0 rfl) rfl rfl hb1 rfl ?_
  refine T.move .list rfl (wants0 rfl) rfl rfl ?_
  refine T.leave .list (wantsNot rfl rfl rfl rfl) rfl ?_
  refine T.leave .list (wantsNot rfl rfl rfl rfl) rfl ?_
  refine T.pickF .list rfl (wants0 rfl) rfl rfl rfl rfl ?_
  refine T.move .list rfl (wants0 rfl) rfl rfl ?_
  refine T.leave .list (wantsNot rfl rfl rfl rfl) rfl ?_
  refine T.leave .list (wantsNot rfl rfl rfl rfl) rfl ?_
  refine T.pickF .list rfl (wants0 rfl) rfl rfl rfl rfl ?_
  refine T.move .list rfl (wants0 rfl) rfl rfl ?_
  refine T.leave .list (wantsNot rfl rfl rfl rfl) rfl ?_
  refine T.leave .list (wantsNot rfl rfl rfl rfl) rfl ?_
  refine T.pickF .list rfl (wants0 rfl) rfl rfl rfl rfl ?_
  refine T.move .list rfl (wants0 rfl) rfl rfl ?_
  refine T.leave .list (wantsNot rfl rfl rfl rfl) rfl ?_
  refine T.leave .list (wantsNot rfl rfl rfl rfl) rfl ?_
  refine T.pickF .list rfl (wants0 rfl) rfl rfl rfl rfl ?_
  refine T.move .list rfl (wants0 rfl) rfl rfl ?_
  refine T.leave .list (wantsNot rfl rfl rfl rfl) rfl ?_
  refine T.leave .list (wantsNot rfl rfl rfl rfl) rfl ?_
  refine T.pickF .list rfl (wants0 rfl) rfl rfl rfl rfl ?_
  refine T.move .list rfl (wants0 rfl) rfl rfl ?_
  refine T.leave .list (wantsNot rfl rfl rfl rfl) rfl ?_
  refine T.leave .list (wantsNot rfl rfl rfl rfl) rfl ?_
  refine T.pickF .list rfl (wants0 rfl) rfl rfl rfl rfl ?_
  refine T.assign .list rfl (wants0 rfl) rfl rfl ?_
  refine T.nil ?_
  refine T.then_normal ?_
  refine T.ret ?_
  obtain rfl := inv_some hr
  refine T.pick [] 0 rfl rfl (Nat.le_add_left _ _) rfl ?_
  refine T.ret1 rfl rfl (fun w hS => ⟨(), rfl, hS⟩)

noncomputable def ref19_Serves.impl (a0 : Int) (a1 : Int) (a2 : Int) (a3 : Int) : Option Bool :=
  (ref19_fine.impl a0 a1 a2 a3).bind fun r1 => (if r1 = true then (if ((decide (a1 ≤ a0))) = true then some (decide (((IntKind.i64.wrap ((IntKind.i64.wrap (a0 - a1)) * 1000))) < (IntKind.i64.wrap (a2 * (IntKind.i64.wrap (1000 - a3)))))) else some false) else some false)
set_option maxRecDepth 100000 in
set_option maxHeartbeats 4000000 in
theorem ref19_Serves.c {B : World} {hs : List MP} {w : World} {a0 : Int} {a1 : Int} {a2 : Int} {a3 : Int} (hS : St B (hs) w) {r : Bool} (hr : ref19_Serves.impl a0 a1 a2 a3 = some r) :
    Calls Try.prog 19 #[.int .i64 a0, .int .i64 a1, .int .i64 a2, .int .i64 a3] w fun e w' => ∃ x : Unit, e = .returned (.bool r) ∧ St B (hs) w' := by
 unfold ref19_Serves.impl at hr
 refine calls_T Try.func19 rfl rfl rfl hS ?_
 refine T.seq ?_
 refine T.region ?_
 refine T.assign .list rfl (wants0 rfl) rfl rfl ?_
 refine T.nil ?_
 refine T.then_normal ?_
 refine T.seq ?_
 refine T.region ?_
 refine T.move .list rfl (wants0 rfl) rfl rfl ?_
 refine T.move .list rfl (wants0 rfl) rfl rfl ?_
 refine T.move .list rfl (wants0 rfl) rfl rfl ?_
 refine T.move .list rfl (wants0 rfl) rfl rfl ?_
 obtain ⟨r1, hg1, hr⟩ := inv_bind hr
 refine T.call .list (wants0 rfl) rfl (run_callF (vs := [_, _, _, _]) rfl Try.func34 rfl (by decide) rfl) (fun w hS => ref19_fine.c hS  hg1) (fun x1 => ?_)
 refine T.move .list rfl (wants0 rfl) rfl rfl ?_
 refine T.bool (b := r1) (fun hb1 => ?_) (fun hb1 => ?_)
 ·replace hr := inv_posB hb1 hr
  refine T.move .list rfl (wants1 rfl rfl rfl hb1) rfl rfl ?_
  refine T.move .list rfl (wants1 rfl rfl rfl hb1) rfl rfl ?_
  refine T.bin .list rfl (wants1 rfl rfl rfl hb1) rfl rfl rfl rfl ?_
  refine T.pickT .list rfl (wants0 rfl) rfl rfl hb1 rfl ?_
  refine T.move .list rfl (wants0 rfl) rfl rfl ?_
  refine T.bool (b := (decide (a1 ≤ a0))) (fun hb2 => ?_) (fun hb2 => ?_)
  ·replace hr := inv_posB hb2 hr
   refine T.move .list rfl (wants1 rfl rfl rfl hb2) rfl rfl ?_
   refine T.move .list rfl (wants1 rfl rfl rfl hb2) rfl rfl ?_
   refine T.bin .list rfl (wants1 rfl rfl rfl hb2) rfl rfl rfl rfl ?_
   refine T.bin .list rfl (wants1 rfl rfl rfl hb2) rfl rfl rfl rfl ?_
   refine T.move .list rfl (wants1 rfl rfl rfl hb2) rfl rfl ?_
   refine T.move .list rfl (wants1 rfl rfl rfl hb2) rfl rfl ?_
   refine T.bin .list rfl (wants1 rfl rfl rfl hb2) rfl rfl rfl rfl ?_
   refine T.bin .list rfl (wants1 rfl rfl rfl hb2) rfl rfl rfl rfl ?_
   refine T.bin .list rfl (wants1 rfl rfl rfl hb2) rfl rfl rfl rfl ?_
   refine T.pickT .list rfl (wants0 rfl) rfl rfl hb2 rfl ?_
   refine T.assign .list rfl (wants0 rfl) rfl rfl ?_
   refine T.nil ?_
   refine T.then_normal ?_
   refine T.ret ?_
   obtain rfl := inv_some hr
   refine T.pick [] 0 rfl rfl (Nat.le_add_left _ _) rfl ?_
   refine T.ret1 rfl rfl (fun w hS => ⟨(), rfl, hS⟩)
  ·replace hr := inv_negB hb2 hr
   refine T.leave .list (wantsNot rfl rfl rfl hb2) rfl ?_
   refine T.leave .list (wantsNot rfl rfl rfl hb2) rfl ?_
   refine T.leave .list (wantsNot rfl rfl rfl hb2) rfl ?_
   refine T.leave .list (wantsNot rfl rfl rfl hb2) rfl ?_
   refine T.leave .list (wantsNot rfl rfl rfl hb2) rfl ?_
   refine T.leave .list (wantsNot rfl rfl rfl hb2) rfl ?_
   refine T.leave .list (wantsNot rfl rfl rfl hb2) rfl ?_
   refine T.leave .list (wantsNot rfl rfl rfl hb2) rfl ?_
   refine T.leave .list (wantsNot rfl rfl rfl hb2) rfl ?_
   refine T.pickF .list rfl (wants0 rfl) rfl rfl hb2 rfl ?_
   refine T.assign .list rfl (wants0 rfl) rfl rfl ?_
   refine T.nil ?_
   refine T.then_normal ?_
   refine T.ret ?_
   obtain rfl := inv_some hr
   refine T.pick [] 0 rfl rfl (Nat.le_add_left _ _) rfl ?_
   refine T.ret1 rfl rfl (fun w hS => ⟨(), rfl, hS⟩)
 ·replace hr := inv_negB hb1 hr
  refine T.leave .list (wantsNot rfl rfl rfl hb1) rfl ?_
  refine T.leave .list (wantsNot rfl rfl rfl hb1) rfl ?_
  refine T.leave .list (wantsNot rfl rfl rfl hb1) rfl ?_
  refine T.pickF .list rfl (wants0 rfl) rfl rfl hb1 rfl ?_
  refine T.move .list rfl (wants0 rfl) rfl rfl ?_
  refine T.leave .list (wantsNot rfl rfl rfl rfl) rfl ?_
  refine T.leave .list (wantsNot rfl rfl rfl rfl) rfl ?_
  refine T.leave .list (wantsNot rfl rfl rfl rfl) rfl ?_
  refine T.leave .list (wantsNot rfl rfl rfl rfl) rfl ?_
  refine T.leave .list (wantsNot rfl rfl rfl rfl) rfl ?_
  refine T.leave .list (wantsNot rfl rfl rfl rfl) rfl ?_
  refine T.leave .list (wantsNot rfl rfl rfl rfl) rfl ?_
  refine T.leave .list (wantsNot rfl rfl rfl rfl) rfl ?_
  refine T.leave .list (wantsNot rfl rfl rfl rfl) rfl ?_
  refine T.pickF .list rfl (wants0 rfl) rfl rfl rfl rfl ?_
  refine T.assign .list rfl (wants0 rfl) rfl rfl ?_
  refine T.nil ?_
  refine T.then_normal ?_
  refine T.ret ?_
  obtain rfl := inv_some hr
  refine T.pick [] 0 rfl rfl (Nat.le_add_left _ _) rfl ?_
  refine T.ret1 rfl rfl (fun w hS => ⟨(), rfl, hS⟩)

noncomputable def ref19_Ended.impl (a0 : Int) (a1 : Int) (a2 : Int) (a3 : Int) : Option Bool :=
  (ref19_fine.impl a0 a1 a2 a3).bind fun r1 => (if r1 = true then some (decide (((IntKind.i64.wrap (a2 * (IntKind.i64.wrap (1000 + a3))))) < (IntKind.i64.wrap ((IntKind.i64.wrap (a0 - a1)) * 1000)))) else some false)
set_option maxRecDepth 100000 in
set_option maxHeartbeats 4000000 in
theorem ref19_Ended.c {B : World} {hs : List MP} {w : World} {a0 : Int} {a1 : Int} {a2 : Int} {a3 : Int} (hS : St B (hs) w) {r : Bool} (hr : ref19_Ended.impl a0 a1 a2 a3 = some r) :
    Calls Try.prog 20 #[.int .i64 a0, .int .i64 a1, .int .i64 a2, .int .i64 a3] w fun e w' => ∃ x : Unit, e = .returned (.bool r) ∧ St B (hs) w' := by
 unfold ref19_Ended.impl at hr
 refine calls_T Try.func20 rfl rfl rfl hS ?_
 refine T.seq ?_
 refine T.region ?_
 refine T.assign .list rfl (wants0 rfl) rfl rfl ?_
 refine T.nil ?_
 refine T.then_normal ?_
 refine T.seq ?_
 refine T.region ?_
 refine T.move .list rfl (wants0 rfl) rfl rfl ?_
 refine T.move .list rfl (wants0 rfl) rfl rfl ?_
 refine T.move .list rfl (wants0 rfl) rfl rfl ?_
 refine T.move .list rfl (wants0 rfl) rfl rfl ?_
 obtain ⟨r1, hg1, hr⟩ := inv_bind hr
 refine T.call .list (wants0 rfl) rfl (run_callF (vs := [_, _, _, _]) rfl Try.func34 rfl (by decide) rfl) (fun w hS => ref19_fine.c hS  hg1) (fun x1 => ?_)
 refine T.move .list rfl (wants0 rfl) rfl rfl ?_
 refine T.bool (b := r1) (fun hb1 => ?_) (fun hb1 => ?_)
 ·replace hr := inv_posB hb1 hr
  refine T.move .list rfl (wants1 rfl rfl rfl hb1) rfl rfl ?_
  refine T.move .list rfl (wants1 rfl rfl rfl hb1) rfl rfl ?_
  refine T.bin .list rfl (wants1 rfl rfl rfl hb1) rfl rfl rfl rfl ?_
  refine T.bin .list rfl (wants1 rfl rfl rfl hb1) rfl rfl rfl rfl ?_
  refine T.move .list rfl (wants1 rfl rfl rfl hb1) rfl rfl ?_
  refine T.move .list rfl (wants1 rfl rfl rfl hb1) rfl rfl ?_
  refine T.bin .list rfl (wants1 rfl rfl rfl hb1) rfl rfl rfl rfl ?_
  refine T.bin .list rfl (wants1 rfl rfl rfl hb1) rfl rfl rfl rfl ?_
  refine T.bin .list rfl (wants1 rfl rfl rfl hb1) rfl rfl rfl rfl ?_
  refine T.pickT .list rfl (wants0 rfl) rfl rfl hb1 rfl ?_
  refine T.assign .list rfl (wants0 rfl) rfl rfl ?_
  refine T.nil ?_
  refine T.then_normal ?_
  refine T.ret ?_
  obtain rfl := inv_some hr
  refine T.pick [] 0 rfl rfl (Nat.le_add_left _ _) rfl ?_
  refine T.ret1 rfl rfl (fun w hS => ⟨(), rfl, hS⟩)
 ·replace hr := inv_negB hb1 hr
  refine T.leave .list (wantsNot rfl rfl rfl hb1) rfl ?_
  refine T.leave .list (wantsNot rfl rfl rfl hb1) rfl ?_
  refine T.leave .list (wantsNot rfl rfl rfl hb1) rfl ?_
  refine T.leave .list (wantsNot rfl rfl rfl hb1) rfl ?_
  refine T.leave .list (wantsNot rfl rfl rfl hb1) rfl ?_
  refine T.leave .list (wantsNot rfl rfl rfl hb1) rfl ?_
  refine T.leave .list (wantsNot rfl rfl rfl hb1) rfl ?_
  refine T.leave .list (wantsNot rfl rfl rfl hb1) rfl ?_
  refine T.leave .list (wantsNot rfl rfl rfl hb1) rfl ?_
  refine T.pickF .list rfl (wants0 rfl) rfl rfl hb1 rfl ?_
  refine T.assign .list rfl (wants0 rfl) rfl rfl ?_
  refine T.nil ?_
  refine T.then_normal ?_
  refine T.ret ?_
  obtain rfl := inv_some hr
  refine T.pick [] 0 rfl rfl (Nat.le_add_left _ _) rfl ?_
  refine T.ret1 rfl rfl (fun w hS => ⟨(), rfl, hS⟩)

noncomputable def ref19_Within.impl (a0 : Int) (a1 : Int) (a2 : Int) : Option Bool :=
  (if ((decide ((0 : Int) ≤ a0))) = true then (if ((decide (a0 ≤ 1099511627776))) = true then (if ((decide ((0 : Int) ≤ a1))) = true then (if ((decide (a1 ≤ 1099511627776))) = true then (if ((decide ((0 : Int) ≤ a2))) = true then (if ((decide (a2 ≤ 500))) = true then some (decide (((IntKind.i64.wrap ((max (IntKind.i64.wrap (a1 - a0)) (IntKind.i64.wrap (a0 - a1))) * 1000))) ≤ (IntKind.i64.wrap (a0 * a2)))) else some false) else some false) else some false) else some false) else some false) else some false)
set_option maxRecDepth 100000 in
set_option maxHeartbeats 4000000 in
theorem ref19_Within.c {B : World} {hs : List MP} {w : World} {a0 : Int} {a1 : Int} {a2 : Int} (hS : St B (hs) w) {r : Bool} (hr : ref19_Within.impl a0 a1 a2 = some r) :
    Calls Try.prog 22 #[.int .i64 a0, .int .i64 a1, .int .i64 a2] w fun e w' => ∃ x : Unit, e = .returned (.bool r) ∧ St B (hs) w' := by
 unfold ref19_Within.impl at hr
 refine calls_T Try.func22 rfl rfl rfl hS ?_
 refine T.seq ?_
 refine T.region ?_
 refine T.assign .list rfl (wants0 rfl) rfl rfl ?_
 refine T.nil ?_
 refine T.then_normal ?_
 refine T.seq ?_
 refine T.region ?_
 refine T.move .list rfl (wants0 rfl) rfl rfl ?_
 refine T.bin .list rfl (wants0 rfl) rfl rfl rfl rfl ?_
 refine T.move .list rfl (wants0 rfl) rfl rfl ?_
 refine T.bool (b := (decide ((0 : Int) ≤ a0))) (fun hb1 => ?_) (fun hb1 => ?_)
 ·replace hr := inv_posB hb1 hr
  refine T.move .list rfl (wants1 rfl rfl rfl hb1) rfl rfl ?_
  refine T.bin .list rfl (wants1 rfl rfl rfl hb1) rfl rfl rfl rfl ?_
  refine T.pickT .list rfl (wants0 rfl) rfl rfl hb1 rfl ?_
  refine T.move .list rfl (wants0 rfl) rfl rfl ?_
  refine T.bool (b := (decide (a0 ≤ 1099511627776))) (fun hb2 => ?_) (fun hb2 => ?_)
  ·replace hr := inv_posB hb2 hr
   refine T.move .list rfl (wants1 rfl rfl rfl hb2) rfl rfl ?_
   refine T.bin .list rfl (wants1 rfl rfl rfl hb2) rfl rfl rfl rfl ?_
   refine T.pickT .list rfl (wants0 rfl) rfl rfl hb2 rfl ?_
   refine T.move .list rfl (wants0 rfl) rfl rfl ?_
   refine T.bool (b := (decide ((0 : Int) ≤ a1))) (fun hb3 => ?_) (fun hb3 => ?_)
   ·replace hr := inv_posB hb3 hr
    refine T.move .list rfl (wants1 rfl rfl rfl hb3) rfl rfl ?_
    refine T.bin .list rfl (wants1 rfl rfl rfl hb3) rfl rfl rfl rfl ?_
    refine T.pickT .list rfl (wants0 rfl) rfl rfl hb3 rfl ?_
    refine T.move .list rfl (wants0 rfl) rfl rfl ?_
    refine T.bool (b := (decide (a1 ≤ 1099511627776))) (fun hb4 => ?_) (fun hb4 => ?_)
    ·replace hr := inv_posB hb4 hr
     refine T.move .list rfl (wants1 rfl rfl rfl hb4) rfl rfl ?_
     refine T.bin .list rfl (wants1 rfl rfl rfl hb4) rfl rfl rfl rfl ?_
     refine T.pickT .list rfl (wants0 rfl) rfl rfl hb4 rfl ?_
     refine T.move .list rfl (wants0 rfl) rfl rfl ?_
     refine T.bool (b := (decide ((0 : Int) ≤ a2))) (fun hb5 => ?_) (fun hb5 => ?_)
     ·replace hr := inv_posB hb5 hr
      refine T.move .list rfl (wants1 rfl rfl rfl hb5) rfl rfl ?_
      refine T.bin .list rfl (wants1 rfl rfl rfl hb5) rfl rfl rfl rfl ?_
      refine T.pickT .list rfl (wants0 rfl) rfl rfl hb5 rfl ?_
      refine T.move .list rfl (wants0 rfl) rfl rfl ?_
      refine T.bool (b := (decide (a2 ≤ 500))) (fun hb6 => ?_) (fun hb6 => ?_)
      ·replace hr := inv_posB hb6 hr
       refine T.move .list rfl (wants1 rfl rfl rfl hb6) rfl rfl ?_
       refine T.move .list rfl (wants1 rfl rfl rfl hb6) rfl rfl ?_
       refine T.bin .list rfl (wants1 rfl rfl rfl hb6) rfl rfl rfl rfl ?_
       refine T.move .list rfl (wants1 rfl rfl rfl hb6) rfl rfl ?_
       refine T.move .list rfl (wants1 rfl rfl rfl hb6) rfl rfl ?_
       refine T.bin .list rfl (wants1 rfl rfl rfl hb6) rfl rfl rfl rfl ?_
       refine T.max2 .list rfl (wants1 rfl rfl rfl hb6) rfl rfl rfl ?_
       refine T.bin .list rfl (wants1 rfl rfl rfl hb6) rfl rfl rfl rfl ?_
       refine T.move .list rfl (wants1 rfl rfl rfl hb6) rfl rfl ?_
       refine T.move .list rfl (wants1 rfl rfl rfl hb6) rfl rfl ?_
       refine T.bin .list rfl (wants1 rfl rfl rfl hb6) rfl rfl rfl rfl ?_
       refine T.bin .list rfl (wants1 rfl rfl rfl hb6) rfl rfl rfl rfl ?_
       refine T.pickT .list rfl (wants0 rfl) rfl rfl hb6 rfl ?_
       refine T.assign .list rfl (wants0 rfl) rfl rfl ?_
       refine T.nil ?_
       refine T.then_normal ?_
       refine T.ret ?_
       obtain rfl := inv_some hr
       refine T.pick [] 0 rfl rfl (Nat.le_add_left _ _) rfl ?_
       refine T.ret1 rfl rfl (fun w hS => ⟨(), rfl, hS⟩)
      ·replace hr := inv_negB hb6 hr
       refine T.leave .list (wantsNot rfl rfl rfl hb6) rfl ?_
       refine T.leave .list (wantsNot rfl rfl rfl hb6) rfl ?_
       refine T.leave .list (wantsNot rfl rfl rfl hb6) rfl ?_
       refine T.leave .list (wantsNot rfl rfl rfl hb6) rfl ?_
       refine T.leave .list (wantsNot rfl rfl rfl hb6) rfl ?_
       refine T.leave .list (wantsNot rfl rfl rfl hb6) rfl ?_
       refine T.leave .list (wantsNot rfl rfl rfl hb6) rfl ?_
       refine T.leave .list (wantsNot rfl rfl rfl hb6) rfl ?_
       refine T.leave .list (wantsNot rfl rfl rfl hb6) rfl ?_
       refine T.leave .list (wantsNot rfl rfl rfl hb6) rfl ?_
       refine T.leave .list (wantsNot rfl rfl rfl hb6) rfl ?_
       refine T.leave .list (wantsNot rfl rfl rfl hb6) rfl ?_
       refine T.pickF .list rfl (wants0 rfl) rfl rfl hb6 rfl ?_
       refine T.assign .list rfl (wants0 rfl) rfl rfl ?_
       refine T.nil ?_
       refine T.then_normal ?_
       refine T.ret ?_
       obtain rfl := inv_some hr
       refine T.pick [] 0 rfl rfl (Nat.le_add_left _ _) rfl ?_
       refine T.ret1 rfl rfl (fun w hS => ⟨(), rfl, hS⟩)
     ·replace hr := inv_negB hb5 hr
      refine T.leave .list (wantsNot rfl rfl rfl hb5) rfl ?_
      refine T.leave .list (wantsNot rfl rfl rfl hb5) rfl ?_
      refine T.pickF .list rfl (wants0 rfl) rfl rfl hb5 rfl ?_
      refine T.move .list rfl (wants0 rfl) rfl rfl ?_
      refine T.leave .list (wantsNot rfl rfl rfl rfl) rfl ?_
      refine T.leave .list (wantsNot rfl rfl rfl rfl) rfl ?_
      refine T.leave .list (wantsNot rfl rfl rfl rfl) rfl ?_
      refine T.leave .list (wantsNot rfl rfl rfl rfl) rfl ?_
      refine T.leave .list (wantsNot rfl rfl rfl rfl) rfl ?_
      refine T.leave .list (wantsNot rfl rfl rfl rfl) rfl ?_
      refine T.leave .list (wantsNot rfl rfl rfl rfl) rfl ?_
      refine T.leave .list (wantsNot rfl rfl rfl rfl) rfl ?_
      refine T.leave .list (wantsNot rfl rfl rfl rfl) rfl ?_
      refine T.leave .list (wantsNot rfl rfl rfl rfl) rfl ?_
      refine T.leave .list (wantsNot rfl rfl rfl rfl) rfl ?_
      refine T.leave .list (wantsNot rfl rfl rfl rfl) rfl ?_
      refine T.pickF .list rfl (wants0 rfl) rfl rfl rfl rfl ?_
      refine T.assign .list rfl (wants0 rfl) rfl rfl ?_
      refine T.nil ?_
      refine T.then_normal ?_
      refine T.ret ?_
      obtain rfl := inv_some hr
      refine T.pick [] 0 rfl rfl (Nat.le_add_left _ _) rfl ?_
      refine T.ret1 rfl rfl (fun w hS => ⟨(), rfl, hS⟩)
    ·replace hr := inv_negB hb4 hr
     refine T.leave .list (wantsNot rfl rfl rfl hb4) rfl ?_
     refine T.leave .list (wantsNot rfl rfl rfl hb4) rfl ?_
     refine T.pickF .list rfl (wants0 rfl) rfl rfl hb4 rfl ?_
     refine T.move .list rfl (wants0 rfl) rfl rfl ?_
     refine T.leave .list (wantsNot rfl rfl rfl rfl) rfl ?_
     refine T.leave .list (wantsNot rfl rfl rfl rfl) rfl ?_
     refine T.pickF .list rfl (wants0 rfl) rfl rfl rfl rfl ?_
     refine T.move .list rfl (wants0 rfl) rfl rfl ?_
     refine T.leave .list (wantsNot rfl rfl rfl rfl) rfl ?_
     refine T.leave .list (wantsNot rfl rfl rfl rfl) rfl ?_
     refine T.leave .list (wantsNot rfl rfl rfl rfl) rfl ?_
     refine T.leave .list (wantsNot rfl rfl rfl rfl) rfl ?_
     refine T.leave .list (wantsNot rfl rfl rfl rfl) rfl ?_
     refine T.leave .list (wantsNot rfl rfl rfl rfl) rfl ?_
     refine T.leave .list (wantsNot rfl rfl rfl rfl) rfl ?_
     refine T.leave .list (wantsNot rfl rfl rfl rfl) rfl ?_
     refine T.leave .list (wantsNot rfl rfl rfl rfl) rfl ?_
     refine T.leave .list (wantsNot rfl rfl rfl rfl) rfl ?_
     refine T.leave .list (wantsNot rfl rfl rfl rfl) rfl ?_
     refine T.leave .list (wantsNot rfl rfl rfl rfl) rfl ?_
     refine T.pickF .list rfl (wants0 rfl) rfl rfl rfl rfl ?_
     refine T.assign .list rfl (wants0 rfl) rfl rfl ?_
     refine T.nil ?_
     refine T.then_normal ?_
     refine T.ret ?_
     obtain rfl := inv_some hr
     refine T.pick [] 0 rfl rfl (Nat.le_add_left _ _) rfl ?_
     refine T.ret1 rfl rfl (fun w hS => ⟨(), rfl, hS⟩)
   ·replace hr := inv_negB hb3 hr
    refine T.leave .list (wantsNot rfl rfl rfl hb3) rfl ?_
    refine T.leave .list (wantsNot rfl rfl rfl hb3) rfl ?_
    refine T.pickF .list rfl (wants0 rfl) rfl rfl hb3 rfl ?_
    refine T.move .list rfl (wants0 rfl) rfl rfl ?_
    refine T.leave .list (wantsNot rfl rfl rfl rfl) rfl ?_
    refine T.leave .list (wantsNot rfl rfl rfl rfl) rfl ?_
    refine T.pickF .list rfl (wants0 rfl) rfl rfl rfl rfl ?_
    refine T.move .list rfl (wants0 rfl) rfl rfl ?_
    refine T.leave .list (wantsNot rfl rfl rfl rfl) rfl ?_
    refine T.leave .list (wantsNot rfl rfl rfl rfl) rfl ?_
    refine T.pickF .list rfl (wants0 rfl) rfl rfl rfl rfl ?_
    refine T.move .list rfl (wants0 rfl) rfl rfl ?_
    refine T.leave .list (wantsNot rfl rfl rfl rfl) rfl ?_
    refine T.leave .list (wantsNot rfl rfl rfl rfl) rfl ?_
    refine T.leave .list (wantsNot rfl rfl rfl rfl) rfl ?_
    refine T.leave .list (wantsNot rfl rfl rfl rfl) rfl ?_
    refine T.leave .list (wantsNot rfl rfl rfl rfl) rfl ?_
    refine T.leave .list (wantsNot rfl rfl rfl rfl) rfl ?_
    refine T.leave .list (wantsNot rfl rfl rfl rfl) rfl ?_
    refine T.leave .list (wantsNot rfl rfl rfl rfl) rfl ?_
    refine T.leave .list (wantsNot rfl rfl rfl rfl) rfl ?_
    refine T.leave .list (wantsNot rfl rfl rfl rfl) rfl ?_
    refine T.leave .list (wantsNot rfl rfl rfl rfl) rfl ?_
    refine T.leave .list (wantsNot rfl rfl rfl rfl) rfl ?_
    refine T.pickF .list rfl (wants0 rfl) rfl rfl rfl rfl ?_
    refine T.assign .list rfl (wants0 rfl) rfl rfl ?_
    refine T.nil ?_
    refine T.then_normal ?_
    refine T.ret ?_
    obtain rfl := inv_some hr
    refine T.pick [] 0 rfl rfl (Nat.le_add_left _ _) rfl ?_
    refine T.ret1 rfl rfl (fun w hS => ⟨(), rfl, hS⟩)
  ·replace hr := inv_negB hb2 hr
   refine T.leave .list (wantsNot rfl rfl rfl hb2) rfl ?_
   refine T.leave .list (wantsNot rfl rfl rfl hb2) rfl ?_
   refine T.pickF .list rfl (wants0 rfl) rfl rfl hb2 rfl ?_
   refine T.move .list rfl (wants0 rfl) rfl rfl ?_
   refine T.leave .list (wantsNot rfl rfl rfl rfl) rfl ?_
   refine T.leave .list (wantsNot rfl rfl rfl rfl) rfl ?_
   refine T.pickF .list rfl (wants0 rfl) rfl rfl rfl rfl ?_
   refine T.move .list rfl (wants0 rfl) rfl rfl ?_
   refine T.leave .list (wantsNot rfl rfl rfl rfl) rfl ?_
   refine T.leave .list (wantsNot rfl rfl rfl rfl) rfl ?_
   refine T.pickF .list rfl (wants0 rfl) rfl rfl rfl rfl ?_
   refine T.move .list rfl (wants0 rfl) rfl rfl ?_
   refine T.leave .list (wantsNot rfl rfl rfl rfl) rfl ?_
   refine T.leave .list (wantsNot rfl rfl rfl rfl) rfl ?_
   refine T.pickF .list rfl (wants0 rfl) rfl rfl rfl rfl ?_
   refine T.move .list rfl (wants0 rfl) rfl rfl ?_
   refine T.leave .list (wantsNot rfl rfl rfl rfl) rfl ?_
   refine T.leave .list (wantsNot rfl rfl rfl rfl) rfl ?_
   refine T.leave .list (wantsNot rfl rfl rfl rfl) rfl ?_
   refine T.leave .list (wantsNot rfl rfl rfl rfl) rfl ?_
   refine T.leave .list (wantsNot rfl rfl rfl rfl) rfl ?_
   refine T.leave .list (wantsNot rfl rfl rfl rfl) rfl ?_
   refine T.leave .list (wantsNot rfl rfl rfl rfl) rfl ?_
   refine T.leave .list (wantsNot rfl rfl rfl rfl) rfl ?_
   refine T.leave .list (wantsNot rfl rfl rfl rfl) rfl ?_
   refine T.leave .list (wantsNot rfl rfl rfl rfl) rfl ?_
   refine T.leave .list (wantsNot rfl rfl rfl rfl) rfl ?_
   refine T.leave .list (wantsNot rfl rfl rfl rfl) rfl ?_
   refine T.pickF .list rfl (wants0 rfl) rfl rfl rfl rfl ?_
   refine T.assign .list rfl (wants0 rfl) rfl rfl ?_
   refine T.nil ?_
   refine T.then_normal ?_
   refine T.ret ?_
   obtain rfl := inv_some hr
   refine T.pick [] 0 rfl rfl (Nat.le_add_left _ _) rfl ?_
   refine T.ret1 rfl rfl (fun w hS => ⟨(), rfl, hS⟩)
 ·replace hr := inv_negB hb1 hr
  refine T.leave .list (wantsNot rfl rfl rfl hb1) rfl ?_
  refine T.leave .list (wantsNot rfl rfl rfl hb1) rfl ?_
  refine T.pickF .list rfl (wants0 rfl) rfl rfl hb1 rfl ?_
  refine T.move .list rfl (wants0 rfl) rfl rfl ?_
  refine T.leave .list (wantsNot rfl rfl rfl rfl) rfl ?_
  refine T.leave .list (wantsNot rfl rfl rfl rfl) rfl ?_
  refine T.pickF .list rfl (wants0 rfl) rfl rfl rfl rfl ?_
  refine T.move .list rfl (wants0 rfl) rfl rfl ?_
  refine T.leave .list (wantsNot rfl rfl rfl rfl) rfl ?_
  refine T.leave .list (wantsNot rfl rfl rfl rfl) rfl ?_
  refine T.pickF .list rfl (wants0 rfl) rfl rfl rfl rfl ?_
  refine T.move .list rfl (wants0 rfl) rfl rfl ?_
  refine T.leave .list (wantsNot rfl rfl rfl rfl) rfl ?_
  refine T.leave .list (wantsNot rfl rfl rfl rfl) rfl ?_
  refine T.pickF .list rfl (wants0 rfl) rfl rfl rfl rfl ?_
  refine T.move .list rfl (wants0 rfl) rfl rfl ?_
  refine T.leave .list (wantsNot rfl rfl rfl rfl) rfl ?_
  refine T.leave .list (wantsNot rfl rfl rfl rfl) rfl ?_
  refine T.pickF .list rfl (wants0 rfl) rfl rfl rfl rfl ?_
  refine T.move .list rfl (wants0 rfl) rfl rfl ?_
  refine T.leave .list (wantsNot rfl rfl rfl rfl) rfl ?_
  refine T.leave .list (wantsNot rfl rfl rfl rfl) rfl ?_
  refine T.leave .list (wantsNot rfl rfl rfl rfl) rfl ?_
  refine T.leave .list (wantsNot rfl rfl rfl rfl) rfl ?_
  refine T.leave .list (wantsNot rfl rfl rfl rfl) rfl ?_
  refine T.leave .list (wantsNot rfl rfl rfl rfl) rfl ?_
  refine T.leave .list (wantsNot rfl rfl rfl rfl) rfl ?_
  refine T.leave .list (wantsNot rfl rfl rfl rfl) rfl ?_
  refine T.leave .list (wantsNot rfl rfl rfl rfl) rfl ?_
  refine T.leave .list (wantsNot rfl rfl rfl rfl) rfl ?_
  refine T.leave .list (wantsNot rfl rfl rfl rfl) rfl ?_
  refine T.leave .list (wantsNot rfl rfl rfl rfl) rfl ?_
  refine T.pickF .list rfl (wants0 rfl) rfl rfl rfl rfl ?_
  refine T.assign .list rfl (wants0 rfl) rfl rfl ?_
  refine T.nil ?_
  refine T.then_normal ?_
  refine T.ret ?_
  obtain rfl := inv_some hr
  refine T.pick [] 0 rfl rfl (Nat.le_add_left _ _) rfl ?_
  refine T.ret1 rfl rfl (fun w hS => ⟨(), rfl, hS⟩)
end Go.Proofs.Ytodijocajcohjaa
