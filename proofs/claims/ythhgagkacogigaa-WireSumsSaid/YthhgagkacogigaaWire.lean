/- Wire: what the functions compute, and that the program computes it; printed by a program of ours. -/
import Derived.Test.YthhgagkacogigaaWords
set_option linter.unusedVariables false
set_option linter.unusedSimpArgs false
namespace Go.Proofs.Ythhgagkacogigaa
open Go.RowKit
noncomputable def wire_Uint.k2 (s2 : List UInt8) : Option (List UInt8) :=
  some s2
noncomputable def wire_Uint.st1 (s1 : Int) (a0 : Int) (s3 : List UInt8 × Int) : Option ((List UInt8 × Int) ⊕ (List UInt8)) :=
  (if ((decide (s3.2 < s1))) = true then chk (0 ≤ IntKind.i64.wrap (7 * (IntKind.i64.wrap ((IntKind.i64.wrap (s1 - 1)) - s3.2)))) (chk (0 ≤ s3.2 ∧ s3.2 < (s3.1.length : Int)) ((if ((decide (s3.2 < (IntKind.i64.wrap (s1 - 1))))) = true then chk (0 ≤ s3.2 ∧ s3.2 < ((((s3.1).set (s3.2 : Int).toNat (u8 (IntKind.u8.wrap (bitsOf .and .i64 (shrI .i64 a0 (IntKind.i64.wrap (7 * (IntKind.i64.wrap ((IntKind.i64.wrap (s1 - 1)) - s3.2))))) 127))))).length : Int)) (chk (0 ≤ s3.2 ∧ s3.2 < ((((s3.1).set (s3.2 : Int).toNat (u8 (IntKind.u8.wrap (bitsOf .and .i64 (shrI .i64 a0 (IntKind.i64.wrap (7 * (IntKind.i64.wrap ((IntKind.i64.wrap (s1 - 1)) - s3.2))))) 127))))).length : Int)) (some (.inl (((((s3.1).set (s3.2 : Int).toNat (u8 (IntKind.u8.wrap (bitsOf .and .i64 (shrI .i64 a0 (IntKind.i64.wrap (7 * (IntKind.i64.wrap ((IntKind.i64.wrap (s1 - 1)) - s3.2))))) 127))))).set (s3.2 : Int).toNat (u8 (bitsOf .or .u8 ((((((s3.1).set (s3.2 : Int).toNat (u8 (IntKind.u8.wrap (bitsOf .and .i64 (shrI .i64 a0 (IntKind.i64.wrap (7 * (IntKind.i64.wrap ((IntKind.i64.wrap (s1 - 1)) - s3.2))))) 127))))).getD (s3.2 : Int).toNat default).toNat : Int)) 128))), IntKind.i64.wrap (s3.2 + 1))))) else some (.inl (((s3.1).set (s3.2 : Int).toNat (u8 (IntKind.u8.wrap (bitsOf .and .i64 (shrI .i64 a0 (IntKind.i64.wrap (7 * (IntKind.i64.wrap ((IntKind.i64.wrap (s1 - 1)) - s3.2))))) 127)))), IntKind.i64.wrap (s3.2 + 1)))))) else some (.inr s3.1))
noncomputable def wire_Uint.k1 (a0 : Int) (s1 : Int) : Option (List UInt8) :=
  chk (0 ≤ s1 ∧ s1 * 1 ≤ 140737488355328) ((loop (wire_Uint.st1 s1 a0) (List.replicate (s1 : Int).toNat (0 : UInt8), 0)).bind (fun e1 => wire_Uint.k2 e1))
noncomputable def wire_Uint.st2 (s4 : Int × Int) : Option ((Int × Int) ⊕ Int) :=
  (if ((decide ((0 : Int) < s4.2))) = true then some (.inl (IntKind.i64.wrap (s4.1 + 1), shrI .i64 s4.2 7)) else some (.inr s4.1))
noncomputable def wire_Uint.impl (a0 : Int) : Option (List UInt8) :=
  (if ((decide (a0 < 0))) = true then some ([] : List UInt8) else (loop (wire_Uint.st2) (1, shrI .i64 a0 7)).bind (fun e2 => wire_Uint.k1 a0 e2))
set_option maxRecDepth 100000 in
set_option maxHeartbeats 1000000 in
theorem wire_Uint.c {B : World} {hs : List MP} {w : World} {a0 : Int} (hS : St B (hs) w) {r : List UInt8} (hr : wire_Uint.impl a0 = some r) :
    Calls Try.prog 13 #[.int .i64 a0] w fun e w' => ∃ x : (Option Addr × Nat), e = .returned (.slice x.1 r.length x.2) ∧ St B (Bf E8 5 x.1 x.2 r :: hs) w' := by
  unfold wire_Uint.impl at hr
  refine calls_T Try.func13 rfl rfl rfl hS ?_
  refine T.seq ?_
  refine T.region ?_
  refine T.assign .list rfl (wants0 rfl) rfl rfl ?_
  refine T.nil ?_
  refine T.then_normal ?_
  refine T.seq ?_
  refine T.seq ?_
  refine T.region ?_
  refine T.move .list rfl (wants0 rfl) rfl rfl ?_
  refine T.bin .list rfl (wants0 rfl) rfl rfl rfl rfl ?_
  refine T.nil ?_
  refine T.then_normal ?_
  refine T.cond rfl (fun hb1 => ?_) (fun hb1 => ?_)
  · replace hr := inv_posB hb1 hr
    refine T.seq ?_
    refine T.region ?_
    refine T.assign .list rfl (wants0 rfl) rfl rfl ?_
    refine T.nil ?_
    refine T.then_normal ?_
    refine T.ret ?_
    refine T.then_ret ?_
    obtain rfl := inv_some hr
    refine T.nilBf E8 5 ?_
    refine T.pick [0] 1 rfl rfl (Nat.le_add_left _ _) rfl ?_
    refine T.ret1 rfl rfl (fun w hS => ⟨(none, 0), rfl, hS⟩)
  · replace hr := inv_negB hb1 hr
    refine T.skip ?_
    refine T.then_normal ?_
    refine T.seq ?_
    refine T.region ?_
    refine T.assign .list rfl (wants0 rfl) rfl rfl ?_
    refine T.nil ?_
    refine T.then_normal ?_
    refine T.seqJ (fun (s1 : Int) (x1 : Unit) => [(0, .int .i64 a0), (3, .int .i64 s1)]) (fun s1 x1 => hs) (fun s1 => wire_Uint.k1 a0 s1 = some r) (fun s1 x1 hk1 => ?_) (fun J1 => ?_)
    · unfold wire_Uint.k1 at hk1
      refine T.seq ?_
      refine T.region ?_
      refine T.move .list rfl (wants0 rfl) rfl rfl ?_
      obtain ⟨hc1, hk1⟩ := inv_chk hk1
      refine T.make .list (enc := b8) (h1' := fun _ => rfl) (z0 := (0 : UInt8)) (by rfl) rfl (wants0 rfl) rfl rfl rfl rfl hc1 (fun b1 => ?_)
      refine T.assign .list rfl (wants0 rfl) rfl rfl ?_
      refine T.nil ?_
      refine T.then_normal ?_
      refine T.seqJ (fun (s2 : List UInt8) (x2 : (Option Addr × Nat)) => [(5, .slice x2.1 s2.length x2.2)]) (fun s2 x2 => Bf E8 5 x2.1 x2.2 s2 :: hs) (fun s2 => wire_Uint.k2 s2 = some r) (fun s2 x2 hk2 => ?_) (fun J2 => ?_)
      · unfold wire_Uint.k2 at hk2
        refine T.seq ?_
        refine T.region ?_
        refine T.move .list rfl (wants0 rfl) rfl rfl ?_
        refine T.assign .list rfl (wants0 rfl) rfl rfl ?_
        refine T.nil ?_
        refine T.then_normal ?_
        refine T.ret ?_
        obtain rfl := inv_some hk2
        refine T.pick [0] 1 rfl rfl (Nat.le_add_left _ _) rfl ?_
        refine T.ret1 rfl rfl (fun w hS => ⟨(x2.1, x2.2), rfl, hS⟩)
      · refine T.seq ?_
        refine T.region ?_
        refine T.move .list rfl (wants0 rfl) rfl rfl ?_
        refine T.move .list rfl (wants0 rfl) rfl rfl ?_
        refine T.nil ?_
        refine T.then_normal ?_
        refine T.block ?_
        obtain ⟨e1, hl1, hk1⟩ := inv_bind hk1
        refine T.le (EnvLe.cons rfl (EnvLe.cons rfl (EnvLe.cons rfl (EnvLe.cons rfl (EnvLe.cons rfl EnvLe.nil))))) (T.pick [0] 1 rfl rfl (Nat.le_add_left _ _) rfl (T.loop (s0 := (List.replicate (s1 : Int).toNat (0 : UInt8), 0)) (env := fun s3 x3 => [(0, .int .i64 a0), (3, .int .i64 s1), (5, .slice x3.1 s3.1.length x3.2), (19, .int .i64 s1), (20, .int .i64 s3.2)]) (hs := fun (s3 : List UInt8 × Int) (x3 : (Option Addr × Nat)) => Bf E8 5 x3.1 x3.2 s3.1 :: hs) hl1 (some ⟨b1, 0, none⟩, (s1 : Int).toNat) (fun K1 s3 x3 o1 he1 hm1 hx1 => ?_)))
        unfold wire_Uint.st1 at he1
        refine T.seq ?_
        refine T.region ?_
        refine T.bin .list rfl (wants0 rfl) rfl rfl rfl rfl ?_
        refine T.nil ?_
        refine T.then_normal ?_
        refine T.seq ?_
        refine T.cond rfl (fun hb2 => ?_) (fun hb2 => ?_)
        · replace he1 := inv_posB hb2 he1
          refine T.skip ?_
          refine T.then_normal ?_
          refine T.seq ?_
          refine T.block ?_
          refine T.seq ?_
          refine T.region ?_
          refine T.move .list rfl (wants0 rfl) rfl rfl ?_
          refine T.assign .list rfl (wants0 rfl) rfl rfl ?_
          refine T.nil ?_
          refine T.then_normal ?_
          refine T.seq ?_
          refine T.region ?_
          refine T.move .list rfl (wants0 rfl) rfl rfl ?_
          refine T.move .list rfl (wants0 rfl) rfl rfl ?_
          refine T.move .list rfl (wants0 rfl) rfl rfl ?_
          refine T.move .list rfl (wants0 rfl) rfl rfl ?_
          refine T.bin .list rfl (wants0 rfl) rfl rfl rfl rfl ?_
          refine T.move .list rfl (wants0 rfl) rfl rfl ?_
          refine T.bin .list rfl (wants0 rfl) rfl rfl rfl rfl ?_
          refine T.bin .list rfl (wants0 rfl) rfl rfl rfl rfl ?_
          obtain ⟨hc2, he1⟩ := inv_chk he1
          refine T.shr .list rfl (wants0 rfl) rfl rfl rfl hc2 ?_
          refine T.bin .list rfl (wants0 rfl) rfl rfl rfl rfl ?_
          refine T.conv .list rfl (wants0 rfl) rfl rfl rfl ?_
          obtain ⟨hc3, he1⟩ := inv_chk he1
          refine T.idxBf .list 0 rfl rfl (wants0 rfl) rfl rfl rfl hc3.1 hc3.2 (Nat.le_refl _) ?_
          refine T.stBf .list 0 rfl rfl (wants0 rfl) rfl rfl rfl (b8_wrap _) hc3.1 hc3.2 rfl ?_
          refine T.nil ?_
          refine T.then_normal ?_
          refine T.seq ?_
          refine T.region ?_
          refine T.move .list rfl (wants0 rfl) rfl rfl ?_
          refine T.move .list rfl (wants0 rfl) rfl rfl ?_
          refine T.bin .list rfl (wants0 rfl) rfl rfl rfl rfl ?_
          refine T.bin .list rfl (wants0 rfl) rfl rfl rfl rfl ?_
          refine T.nil ?_
          refine T.then_normal ?_
          refine T.cond rfl (fun hb3 => ?_) (fun hb3 => ?_)
          · replace he1 := inv_posB hb3 he1
            refine T.region ?_
            refine T.move .list rfl (wants0 rfl) rfl rfl ?_
            refine T.move .list rfl (wants0 rfl) rfl rfl ?_
            refine T.env1 39 rfl (slc (n' := (((s3.1).set (s3.2 : Int).toNat (u8 (IntKind.u8.wrap (bitsOf .and .i64 (shrI .i64 a0 (IntKind.i64.wrap (7 * (IntKind.i64.wrap ((IntKind.i64.wrap (s1 - 1)) - s3.2))))) 127))))).length) (by simp only [List.length_set])) ?_
            obtain ⟨hc4, he1⟩ := inv_chk he1
            refine T.idxBf .list 0 rfl rfl (wants0 rfl) rfl rfl rfl hc4.1 hc4.2 (Nat.le_refl _) ?_
            refine T.ldBf1 .list 0 rfl rfl (wants0 rfl) rfl rfl hc4.1 hc4.2 ?_
            refine T.bin .list rfl (wants0 rfl) rfl rfl rfl rfl ?_
            obtain ⟨hc5, he1⟩ := inv_chk he1
            refine T.idxBf .list 0 rfl rfl (wants0 rfl) rfl rfl rfl hc5.1 hc5.2 (Nat.le_refl _) ?_
            refine T.stBf .list 0 rfl rfl (wants0 rfl) rfl rfl rfl (b8_bits _ _ _) hc5.1 hc5.2 rfl ?_
            refine T.nil ?_
            refine T.in_normal ?_
            refine T.then_normal ?_
            refine T.region ?_
            refine T.bin .list rfl (wants0 rfl) rfl rfl rfl rfl ?_
            refine T.move .list rfl (wants0 rfl) rfl rfl ?_
            refine T.nil ?_
            refine T.then_normal ?_
            obtain rfl := inv_some he1
            refine T.env1 5 rfl (slc (n' := (((((s3.1).set (s3.2 : Int).toNat (u8 (IntKind.u8.wrap (bitsOf .and .i64 (shrI .i64 a0 (IntKind.i64.wrap (7 * (IntKind.i64.wrap ((IntKind.i64.wrap (s1 - 1)) - s3.2))))) 127))))).set (s3.2 : Int).toNat (u8 (bitsOf .or .u8 ((((((s3.1).set (s3.2 : Int).toNat (u8 (IntKind.u8.wrap (bitsOf .and .i64 (shrI .i64 a0 (IntKind.i64.wrap (7 * (IntKind.i64.wrap ((IntKind.i64.wrap (s1 - 1)) - s3.2))))) 127))))).getD (s3.2 : Int).toNat default).toNat : Int)) 128)))).length) (by simp only [List.length_set])) ?_
            exact T.le (EnvLe.cons rfl (EnvLe.cons rfl (EnvLe.cons rfl (EnvLe.cons rfl (EnvLe.cons rfl EnvLe.nil))))) (T.pick [0] 1 rfl rfl (Nat.le_add_left _ _) rfl (hm1 _ rfl (x3.1, x3.2)))
          · replace he1 := inv_negB hb3 he1
            refine T.skip ?_
            refine T.in_normal ?_
            refine T.then_normal ?_
            refine T.region ?_
            refine T.bin .list rfl (wants0 rfl) rfl rfl rfl rfl ?_
            refine T.move .list rfl (wants0 rfl) rfl rfl ?_
            refine T.nil ?_
            refine T.then_normal ?_
            obtain rfl := inv_some he1
            refine T.env1 5 rfl (slc (n' := (((s3.1).set (s3.2 : Int).toNat (u8 (IntKind.u8.wrap (bitsOf .and .i64 (shrI .i64 a0 (IntKind.i64.wrap (7 * (IntKind.i64.wrap ((IntKind.i64.wrap (s1 - 1)) - s3.2))))) 127))))).length) (by simp only [List.length_set])) ?_
            exact T.le (EnvLe.cons rfl (EnvLe.cons rfl (EnvLe.cons rfl (EnvLe.cons rfl (EnvLe.cons rfl EnvLe.nil))))) (T.pick [0] 1 rfl rfl (Nat.le_add_left _ _) rfl (hm1 _ rfl (x3.1, x3.2)))
        · replace he1 := inv_negB hb2 he1
          refine T.exit ?_
          refine T.then_exit ?_
          refine T.then_exit ?_
          obtain rfl := inv_some he1
          obtain rfl := hx1 _ rfl
          refine T.in_hit ?_
          refine T.then_normal ?_
          exact T.le (EnvLe.cons rfl EnvLe.nil) (T.pick [0] 1 rfl rfl (Nat.le_add_left _ _) rfl (J2 s3.1 (x3.1, x3.2) hk1))
    · refine T.seq ?_
      refine T.region ?_
      refine T.move .list rfl (wants0 rfl) rfl rfl ?_
      refine T.shr .list rfl (wants0 rfl) rfl rfl rfl (by decide) ?_
      refine T.assign .list rfl (wants0 rfl) rfl rfl ?_
      refine T.nil ?_
      refine T.then_normal ?_
      refine T.block ?_
      obtain ⟨e2, hl2, hr⟩ := inv_bind hr
      refine T.le (EnvLe.cons rfl (EnvLe.cons rfl (EnvLe.cons rfl EnvLe.nil))) (T.pick [] 0 rfl rfl (Nat.le_add_left _ _) rfl (T.loop (s0 := (1, shrI .i64 a0 7)) (env := fun s4 x4 => [(0, .int .i64 a0), (3, .int .i64 s4.1), (4, .int .i64 s4.2)]) (hs := fun (s4 : Int × Int) (x4 : Unit) => hs) hl2 () (fun K2 s4 x4 o2 he2 hm2 hx2 => ?_)))
      unfold wire_Uint.st2 at he2
      refine T.seq ?_
      refine T.seq ?_
      refine T.region ?_
      refine T.move .list rfl (wants0 rfl) rfl rfl ?_
      refine T.bin .list rfl (wants0 rfl) rfl rfl rfl rfl ?_
      refine T.nil ?_
      refine T.then_normal ?_
      refine T.cond rfl (fun hb4 => ?_) (fun hb4 => ?_)
      · replace he2 := inv_posB hb4 he2
        refine T.skip ?_
        refine T.then_normal ?_
        refine T.seq ?_
        refine T.block ?_
        refine T.region ?_
        refine T.move .list rfl (wants0 rfl) rfl rfl ?_
        refine T.bin .list rfl (wants0 rfl) rfl rfl rfl rfl ?_
        refine T.assign .list rfl (wants0 rfl) rfl rfl ?_
        refine T.nil ?_
        refine T.in_normal ?_
        refine T.then_normal ?_
        refine T.region ?_
        refine T.move .list rfl (wants0 rfl) rfl rfl ?_
        refine T.shr .list rfl (wants0 rfl) rfl rfl rfl (by decide) ?_
        refine T.assign .list rfl (wants0 rfl) rfl rfl ?_
        refine T.nil ?_
        refine T.then_normal ?_
        obtain rfl := inv_some he2
        exact T.le (EnvLe.cons rfl (EnvLe.cons rfl (EnvLe.cons rfl EnvLe.nil))) (T.pick [] 0 rfl rfl (Nat.le_add_left _ _) rfl (hm2 _ rfl ()))
      · replace he2 := inv_negB hb4 he2
        refine T.exit ?_
        refine T.then_exit ?_
        refine T.then_exit ?_
        obtain rfl := inv_some he2
        obtain rfl := hx2 _ rfl
        refine T.in_hit ?_
        refine T.then_normal ?_
        exact T.le (EnvLe.cons rfl (EnvLe.cons rfl EnvLe.nil)) (T.pick [] 0 rfl rfl (Nat.le_add_left _ _) rfl (J1 s4.1 () hr))

noncomputable def wire_Bytes.impl (l0 : List UInt8) : Option (List UInt8) :=
  (wire_Uint.impl ((l0.length : Int))).bind fun r1 => chk ((r1.length + l0.length) * 1 ≤ 140737488355328) (some (r1 ++ l0))
set_option maxRecDepth 100000 in
set_option maxHeartbeats 1000000 in
theorem wire_Bytes.c {B : World} {hs : List MP} {w : World} {i0 c0 : Nat} {A0 : Option Addr} {l0 : List UInt8} (hS : St B (hs) w) (h0 : (hs)[i0]? = some (Ro E8 A0 c0 l0)) {r : List UInt8} (hr : wire_Bytes.impl l0 = some r) :
    Calls Try.prog 14 #[.slice A0 l0.length c0] w fun e w' => ∃ x : (Option Addr × Nat), e = .returned (.slice x.1 r.length x.2) ∧ St B (Bf E8 5 x.1 x.2 r :: hs) w' := by
  unfold wire_Bytes.impl at hr
  refine calls_T Try.func14 rfl rfl rfl hS ?_
  refine T.front i0 h0 ?_
  refine T.seq ?_
  refine T.region ?_
  refine T.assign .list rfl (wants0 rfl) rfl rfl ?_
  refine T.nil ?_
  refine T.then_normal ?_
  refine T.seq ?_
  refine T.region ?_
  refine T.move .list rfl (wants0 rfl) rfl rfl ?_
  refine T.lenSlice .list rfl (wants0 rfl) rfl rfl ?_
  obtain ⟨r1, hg1, hr⟩ := inv_bind hr
  refine T.call .list (wants0 rfl) rfl (run_callF (vs := [_]) rfl Try.func13 rfl (by decide) rfl) (fun w hS => wire_Uint.c hS  hg1) (fun x1 => ?_)
  refine T.move .list rfl (wants0 rfl) rfl rfl ?_
  obtain ⟨hc1, hr⟩ := inv_chk hr
  refine T.appRo .list 0 1 rfl rfl rfl rfl rfl (wants0 rfl) rfl rfl rfl rfl rfl rfl hc1 (fun _ _ => rfl) (fun A2 c2 => ?_)
  refine T.assign .list rfl (wants0 rfl) rfl rfl ?_
  refine T.nil ?_
  refine T.then_normal ?_
  refine T.ret ?_
  obtain rfl := inv_some hr
  refine T.pick [0] 2 rfl rfl (Nat.le_add_left _ _) rfl ?_
  refine T.ret1 rfl rfl (fun w hS => ⟨(A2, c2), rfl, hS⟩)

noncomputable def wire_ReadUint.k2 (s2 : Unit) : Option (Int × Int × Int) :=
  some (0, 0, 11)
noncomputable def wire_ReadUint.k3 (l0 : List UInt8) (a1 : Int) (s3 : Int × Int) (s4 : Bool) : Option ((Int × Int) ⊕ ((Int × Int × Int) ⊕ Unit)) :=
  (if s4 = true then some (.inr (.inl (0, 0, 11))) else (if ((decide ((((((l0).getD (IntKind.i64.wrap (a1 + s3.2) : Int).toNat default).toNat : Int))) < 128))) = true then some (.inr (.inl (bitsOf .or .i64 (shlI .i64 s3.1 7) (IntKind.i64.wrap (bitsOf .and .u8 ((((l0).getD (IntKind.i64.wrap (a1 + s3.2) : Int).toNat default).toNat : Int)) 127)), IntKind.i64.wrap ((IntKind.i64.wrap (a1 + s3.2)) + 1), 0))) else some (.inl (bitsOf .or .i64 (shlI .i64 s3.1 7) (IntKind.i64.wrap (bitsOf .and .u8 ((((l0).getD (IntKind.i64.wrap (a1 + s3.2) : Int).toNat default).toNat : Int)) 127)), IntKind.i64.wrap (s3.2 + 1)))))
noncomputable def wire_ReadUint.st1 (l0 : List UInt8) (a1 : Int) (s3 : Int × Int) : Option ((Int × Int) ⊕ ((Int × Int × Int) ⊕ Unit)) :=
  (if ((decide (s3.2 < 9))) = true then (if ((decide ((((l0.length : Int))) ≤ (IntKind.i64.wrap (a1 + s3.2))))) = true then some (.inr (.inl (0, 0, 10))) else chk (0 ≤ (IntKind.i64.wrap (a1 + s3.2)) ∧ (IntKind.i64.wrap (a1 + s3.2)) < (l0.length : Int)) ((if ((decide (s3.2 = 0))) = true then wire_ReadUint.k3 l0 a1 s3 (decide ((((((l0).getD (IntKind.i64.wrap (a1 + s3.2) : Int).toNat default).toNat : Int))) = 128)) else wire_ReadUint.k3 l0 a1 s3 false))) else some (.inr (.inr ())))
noncomputable def wire_ReadUint.k1 (l0 : List UInt8) (a1 : Int) (s1 : Bool) : Option (Int × Int × Int) :=
  (if s1 = true then some (0, 0, 1) else (loop (wire_ReadUint.st1 l0 a1) (0, 0)).bind (fun e1 => match e1 with | .inl v => some v | .inr v => wire_ReadUint.k2 v))
noncomputable def wire_ReadUint.impl (l0 : List UInt8) (a1 : Int) : Option (Int × Int × Int) :=
  (if ((decide (a1 < 0))) = true then wire_ReadUint.k1 l0 a1 true else wire_ReadUint.k1 l0 a1 (decide ((((l0.length : Int))) < a1)))
set_option maxRecDepth 100000 in
set_option maxHeartbeats 1000000 in
theorem wire_ReadUint.c {B : World} {hs : List MP} {w : World} {i0 c0 : Nat} {A0 : Option Addr} {l0 : List UInt8} {a1 : Int} (hS : St B (hs) w) (h0 : (hs)[i0]? = some (Ro E8 A0 c0 l0)) {r : Int × Int × Int} (hr : wire_ReadUint.impl l0 a1 = some r) :
    Calls Try.prog 12 #[.slice A0 l0.length c0, .int .i64 a1] w fun e w' => ∃ x : Unit, e = .returned (.tuple #[.int .i64 r.1, .int .i64 r.2.1, .int .i64 r.2.2]) ∧ St B (hs) w' := by
  unfold wire_ReadUint.impl at hr
  refine calls_T Try.func12 rfl rfl rfl hS ?_
  refine T.front i0 h0 ?_
  refine T.seq ?_
  refine T.region ?_
  refine T.assign .list rfl (wants0 rfl) rfl rfl ?_
  refine T.assign .list rfl (wants0 rfl) rfl rfl ?_
  refine T.assign .list rfl (wants0 rfl) rfl rfl ?_
  refine T.nil ?_
  refine T.then_normal ?_
  refine T.seq ?_
  refine T.seqJ (fun (s1 : Bool) (x1 : Unit) => [(0, .slice A0 l0.length c0), (1, .int .i64 a1), (4, .int .i64 0), (16, .bool s1)]) (fun s1 x1 => Ro E8 A0 c0 l0 :: hs) (fun s1 => wire_ReadUint.k1 l0 a1 s1 = some r) (fun s1 x1 hk1 => ?_) (fun J1 => ?_)
  · unfold wire_ReadUint.k1 at hk1
    refine T.cond rfl (fun hb1 => ?_) (fun hb1 => ?_)
    · replace hk1 := inv_posB hb1 hk1
      refine T.seq ?_
      refine T.region ?_
      refine T.assign .list rfl (wants0 rfl) rfl rfl ?_
      refine T.assign .list rfl (wants0 rfl) rfl rfl ?_
      refine T.assign .list rfl (wants0 rfl) rfl rfl ?_
      refine T.nil ?_
      refine T.then_normal ?_
      refine T.ret ?_
      refine T.then_ret ?_
      obtain rfl := inv_some hk1
      refine T.pick [] 1 rfl rfl (Nat.le_add_left _ _) rfl ?_
      refine T.ret3 rfl rfl rfl rfl (fun w hS => ⟨(), rfl, hS⟩)
    · replace hk1 := inv_negB hb1 hk1
      refine T.skip ?_
      refine T.then_normal ?_
      refine T.seqJ (fun (s2 : Unit) (x2 : Unit) => []) (fun s2 x2 => hs) (fun s2 => wire_ReadUint.k2 s2 = some r) (fun s2 x2 hk2 => ?_) (fun J2 => ?_)
      · unfold wire_ReadUint.k2 at hk2
        refine T.seq ?_
        refine T.region ?_
        refine T.assign .list rfl (wants0 rfl) rfl rfl ?_
        refine T.assign .list rfl (wants0 rfl) rfl rfl ?_
        refine T.assign .list rfl (wants0 rfl) rfl rfl ?_
        refine T.nil ?_
        refine T.then_normal ?_
        refine T.ret ?_
        obtain rfl := inv_some hk2
        refine T.pick [] 0 rfl rfl (Nat.le_add_left _ _) rfl ?_
        refine T.ret3 rfl rfl rfl rfl (fun w hS => ⟨(), rfl, hS⟩)
      · refine T.seq ?_
        refine T.region ?_
        refine T.move .list rfl (wants0 rfl) rfl rfl ?_
        refine T.nil ?_
        refine T.then_normal ?_
        refine T.block ?_
        obtain ⟨e1, hl1, hk1⟩ := inv_bind hk1
        refine T.le (EnvLe.cons rfl (EnvLe.cons rfl (EnvLe.cons rfl (EnvLe.cons rfl EnvLe.nil)))) (T.pick [0] 1 rfl rfl (Nat.le_add_left _ _) rfl (T.loop (s0 := (0, 0)) (env := fun s3 x3 => [(0, .slice A0 l0.length c0), (1, .int .i64 a1), (4, .int .i64 s3.1), (17, .int .i64 s3.2)]) (hs := fun (s3 : Int × Int) (x3 : Unit) => Ro E8 A0 c0 l0 :: hs) hl1 () (fun K1 s3 x3 o1 he1 hm1 hx1 => ?_)))
        unfold wire_ReadUint.st1 at he1
        refine T.seq ?_
        refine T.region ?_
        refine T.bin .list rfl (wants0 rfl) rfl rfl rfl rfl ?_
        refine T.nil ?_
        refine T.then_normal ?_
        refine T.seq ?_
        refine T.cond rfl (fun hb2 => ?_) (fun hb2 => ?_)
        · replace he1 := inv_posB hb2 he1
          refine T.skip ?_
          refine T.then_normal ?_
          refine T.seq ?_
          refine T.block ?_
          refine T.seq ?_
          refine T.region ?_
          refine T.move .list rfl (wants0 rfl) rfl rfl ?_
          refine T.assign .list rfl (wants0 rfl) rfl rfl ?_
          refine T.nil ?_
          refine T.then_normal ?_
          refine T.seq ?_
          refine T.seq ?_
          refine T.region ?_
          refine T.move .list rfl (wants0 rfl) rfl rfl ?_
          refine T.move .list rfl (wants0 rfl) rfl rfl ?_
          refine T.bin .list rfl (wants0 rfl) rfl rfl rfl rfl ?_
          refine T.move .list rfl (wants0 rfl) rfl rfl ?_
          refine T.lenSlice .list rfl (wants0 rfl) rfl rfl ?_
          refine T.bin .list rfl (wants0 rfl) rfl rfl rfl rfl ?_
          refine T.nil ?_
          refine T.then_normal ?_
          refine T.cond rfl (fun hb3 => ?_) (fun hb3 => ?_)
          · replace he1 := inv_posB hb3 he1
            refine T.seq ?_
            refine T.region ?_
            refine T.assign .list rfl (wants0 rfl) rfl rfl ?_
            refine T.assign .list rfl (wants0 rfl) rfl rfl ?_
            refine T.assign .list rfl (wants0 rfl) rfl rfl ?_
            refine T.nil ?_
            refine T.then_normal ?_
            refine T.ret ?_
            refine T.then_ret ?_
            refine T.in_ret ?_
            refine T.then_ret ?_
            refine T.then_ret ?_
            obtain rfl := inv_some he1
            obtain rfl := hx1 _ rfl
            refine T.in_ret ?_
            refine T.then_ret ?_
            obtain rfl := inv_some hk1
            refine T.pick [] 1 rfl rfl (Nat.le_add_left _ _) rfl ?_
            refine T.ret3 rfl rfl rfl rfl (fun w hS => ⟨(), rfl, hS⟩)
          · replace he1 := inv_negB hb3 he1
            refine T.skip ?_
            refine T.then_normal ?_
            refine T.seq ?_
            refine T.region ?_
            refine T.move .list rfl (wants0 rfl) rfl rfl ?_
            refine T.move .list rfl (wants0 rfl) rfl rfl ?_
            refine T.move .list rfl (wants0 rfl) rfl rfl ?_
            refine T.bin .list rfl (wants0 rfl) rfl rfl rfl rfl ?_
            obtain ⟨hc1, he1⟩ := inv_chk he1
            refine T.idxRo .list 0 rfl rfl (wants0 rfl) rfl rfl rfl hc1.1 hc1.2 (Nat.le_refl _) ?_
            refine T.ldRo1 .list 0 rfl rfl (wants0 rfl) rfl rfl hc1.1 hc1.2 ?_
            refine T.assign .list rfl (wants0 rfl) rfl rfl ?_
            refine T.nil ?_
            refine T.then_normal ?_
            refine T.seq ?_
            refine T.seqJ (fun (s4 : Bool) (x4 : Unit) => [(0, .slice A0 l0.length c0), (1, .int .i64 a1), (4, .int .i64 s3.1), (7, .int .i64 s3.2), (8, .int .u8 ((((l0).getD (IntKind.i64.wrap (a1 + s3.2) : Int).toNat default).toNat : Int))), (17, .int .i64 s3.2), (37, .bool s4)]) (fun s4 x4 => Ro E8 A0 c0 l0 :: hs) (fun s4 => wire_ReadUint.k3 l0 a1 s3 s4 = some o1) (fun s4 x4 hk3 => ?_) (fun J3 => ?_)
            · unfold wire_ReadUint.k3 at hk3
              refine T.cond rfl (fun hb4 => ?_) (fun hb4 => ?_)
              · replace hk3 := inv_posB hb4 hk3
                refine T.seq ?_
                refine T.region ?_
                refine T.assign .list rfl (wants0 rfl) rfl rfl ?_
                refine T.assign .list rfl (wants0 rfl) rfl rfl ?_
                refine T.assign .list rfl (wants0 rfl) rfl rfl ?_
                refine T.nil ?_
                refine T.then_normal ?_
                refine T.ret ?_
                refine T.then_ret ?_
                refine T.in_ret ?_
                refine T.then_ret ?_
                refine T.then_ret ?_
                obtain rfl := inv_some hk3
                obtain rfl := hx1 _ rfl
                refine T.in_ret ?_
                refine T.then_ret ?_
                obtain rfl := inv_some hk1
                refine T.pick [] 1 rfl rfl (Nat.le_add_left _ _) rfl ?_
                refine T.ret3 rfl rfl rfl rfl (fun w hS => ⟨(), rfl, hS⟩)
              · replace hk3 := inv_negB hb4 hk3
                refine T.skip ?_
                refine T.then_normal ?_
                refine T.seq ?_
                refine T.region ?_
                refine T.move .list rfl (wants0 rfl) rfl rfl ?_
                refine T.shl .list rfl (wants0 rfl) rfl rfl rfl (by decide) ?_
                refine T.move .list rfl (wants0 rfl) rfl rfl ?_
                refine T.bin .list rfl (wants0 rfl) rfl rfl rfl rfl ?_
                refine T.conv .list rfl (wants0 rfl) rfl rfl rfl ?_
                refine T.bin .list rfl (wants0 rfl) rfl rfl rfl rfl ?_
                refine T.assign .list rfl (wants0 rfl) rfl rfl ?_
                refine T.nil ?_
                refine T.then_normal ?_
                refine T.seq ?_
                refine T.region ?_
                refine T.move .list rfl (wants0 rfl) rfl rfl ?_
                refine T.bin .list rfl (wants0 rfl) rfl rfl rfl rfl ?_
                refine T.nil ?_
                refine T.then_normal ?_
                refine T.cond rfl (fun hb5 => ?_) (fun hb5 => ?_)
                · replace hk3 := inv_posB hb5 hk3
                  refine T.seq ?_
                  refine T.region ?_
                  refine T.move .list rfl (wants0 rfl) rfl rfl ?_
                  refine T.move .list rfl (wants0 rfl) rfl rfl ?_
                  refine T.move .list rfl (wants0 rfl) rfl rfl ?_
                  refine T.bin .list rfl (wants0 rfl) rfl rfl rfl rfl ?_
                  refine T.bin .list rfl (wants0 rfl) rfl rfl rfl rfl ?_
                  refine T.assign .list rfl (wants0 rfl) rfl rfl ?_
                  refine T.assign .list rfl (wants0 rfl) rfl rfl ?_
                  refine T.assign .list rfl (wants0 rfl) rfl rfl ?_
                  refine T.nil ?_
                  refine T.then_normal ?_
                  refine T.ret ?_
                  refine T.in_ret ?_
                  refine T.then_ret ?_
                  refine T.then_ret ?_
                  obtain rfl := inv_some hk3
                  obtain rfl := hx1 _ rfl
                  refine T.in_ret ?_
                  refine T.then_ret ?_
                  obtain rfl := inv_some hk1
                  refine T.pick [] 1 rfl rfl (Nat.le_add_left _ _) rfl ?_
                  refine T.ret3 rfl rfl rfl rfl (fun w hS => ⟨(), rfl, hS⟩)
                · replace hk3 := inv_negB hb5 hk3
                  refine T.skip ?_
                  refine T.in_normal ?_
                  refine T.then_normal ?_
                  refine T.region ?_
                  refine T.bin .list rfl (wants0 rfl) rfl rfl rfl rfl ?_
                  refine T.move .list rfl (wants0 rfl) rfl rfl ?_
                  refine T.nil ?_
                  refine T.then_normal ?_
                  obtain rfl := inv_some hk3
                  exact T.le (EnvLe.cons rfl (EnvLe.cons rfl (EnvLe.cons rfl (EnvLe.cons rfl EnvLe.nil)))) (T.pick [0] 1 rfl rfl (Nat.le_add_left _ _) rfl (hm1 _ rfl ()))
            · refine T.region ?_
              refine T.move .list rfl (wants0 rfl) rfl rfl ?_
              refine T.bin .list rfl (wants0 rfl) rfl rfl rfl rfl ?_
              refine T.move .list rfl (wants0 rfl) rfl rfl ?_
              refine T.bool (b := (decide (s3.2 = 0))) (fun hb6 => ?_) (fun hb6 => ?_)
              · replace he1 := inv_posB hb6 he1
                refine T.move .list rfl (wants1 rfl rfl rfl hb6) rfl rfl ?_
                refine T.bin .list rfl (wants1 rfl rfl rfl hb6) rfl rfl rfl rfl ?_
                refine T.pickT .list rfl (wants0 rfl) rfl rfl hb6 rfl ?_
                refine T.nil ?_
                refine T.then_normal ?_
                exact T.le (EnvLe.cons rfl (EnvLe.cons rfl (EnvLe.cons rfl (EnvLe.cons rfl (EnvLe.cons rfl (EnvLe.cons rfl (EnvLe.cons rfl EnvLe.nil))))))) (T.pick [0] 1 rfl rfl (Nat.le_add_left _ _) rfl (J3 (decide ((((((l0).getD (IntKind.i64.wrap (a1 + s3.2) : Int).toNat default).toNat : Int))) = 128)) () he1))
              · replace he1 := inv_negB hb6 he1
                refine T.leave .list (wantsNot rfl rfl rfl hb6) rfl ?_
                refine T.leave .list (wantsNot rfl rfl rfl hb6) rfl ?_
                refine T.pickF .list rfl (wants0 rfl) rfl rfl hb6 rfl ?_
                refine T.nil ?_
                refine T.then_normal ?_
                exact T.le (EnvLe.cons rfl (EnvLe.cons rfl (EnvLe.cons rfl (EnvLe.cons rfl (EnvLe.cons rfl (EnvLe.cons rfl (EnvLe.cons rfl EnvLe.nil))))))) (T.pick [0] 1 rfl rfl (Nat.le_add_left _ _) rfl (J3 false () he1))
        · replace he1 := inv_negB hb2 he1
          refine T.exit ?_
          refine T.then_exit ?_
          refine T.then_exit ?_
          obtain rfl := inv_some he1
          obtain rfl := hx1 _ rfl
          refine T.in_hit ?_
          refine T.then_normal ?_
          exact T.le EnvLe.nil (T.pick [] 1 rfl rfl (Nat.le_add_left _ _) rfl (J2 () () hk1))
  · refine T.region ?_
    refine T.move .list rfl (wants0 rfl) rfl rfl ?_
    refine T.bin .list rfl (wants0 rfl) rfl rfl rfl rfl ?_
    refine T.move .list rfl (wants0 rfl) rfl rfl ?_
    refine T.bool (b := (decide (a1 < 0))) (fun hb7 => ?_) (fun hb7 => ?_)
    · replace hr := inv_posB hb7 hr
      refine T.leave .list (wantsNot rfl rfl rfl hb7) rfl ?_
      refine T.leave .list (wantsNot rfl rfl rfl hb7) rfl ?_
      refine T.leave .list (wantsNot rfl rfl rfl hb7) rfl ?_
      refine T.leave .list (wantsNot rfl rfl rfl hb7) rfl ?_
      refine T.pickT .list rfl (wants0 rfl) rfl rfl hb7 rfl ?_
      refine T.nil ?_
      refine T.then_normal ?_
      exact T.le (EnvLe.cons rfl (EnvLe.cons rfl (EnvLe.cons rfl (EnvLe.cons rfl EnvLe.nil)))) (T.pick [0] 1 rfl rfl (Nat.le_add_left _ _) rfl (J1 true () hr))
    · replace hr := inv_negB hb7 hr
      refine T.move .list rfl (wants1 rfl rfl rfl hb7) rfl rfl ?_
      refine T.move .list rfl (wants1 rfl rfl rfl hb7) rfl rfl ?_
      refine T.lenSlice .list rfl (wants1 rfl rfl rfl hb7) rfl rfl ?_
      refine T.bin .list rfl (wants1 rfl rfl rfl hb7) rfl rfl rfl rfl ?_
      refine T.pickF .list rfl (wants0 rfl) rfl rfl hb7 rfl ?_
      refine T.nil ?_
      refine T.then_normal ?_
      exact T.le (EnvLe.cons rfl (EnvLe.cons rfl (EnvLe.cons rfl (EnvLe.cons rfl EnvLe.nil)))) (T.pick [0] 1 rfl rfl (Nat.le_add_left _ _) rfl (J1 (decide ((((l0.length : Int))) < a1)) () hr))

noncomputable def wire_ReadBytes.impl (l0 : List UInt8) (a1 : Int) (a2 : Int) : Option (List UInt8 × Int × Int) :=
  (wire_ReadUint.impl l0 a1).bind fun r1 => (if ((!(decide (r1.2.2 = 0)))) = true then some (([] : List UInt8), 0, r1.2.2) else (if ((decide (a2 < 0))) = true then some (([] : List UInt8), 0, 1) else (if ((decide (a2 < r1.1))) = true then some (([] : List UInt8), 0, 3) else (if ((decide (((IntKind.i64.wrap (((l0.length : Int)) - r1.2.1))) < r1.1))) = true then some (([] : List UInt8), 0, 10) else chk (0 ≤ r1.2.1 ∧ r1.2.1 ≤ (IntKind.i64.wrap (r1.2.1 + r1.1)) ∧ (IntKind.i64.wrap (r1.2.1 + r1.1)) ≤ (l0.length : Int)) (chk (((([] : List UInt8)).length + (subl l0 r1.2.1 (IntKind.i64.wrap (r1.2.1 + r1.1))).length) * 1 ≤ 140737488355328) (some (((([] : List UInt8)) ++ (subl l0 r1.2.1 (IntKind.i64.wrap (r1.2.1 + r1.1)))), IntKind.i64.wrap (r1.2.1 + r1.1), 0)))))))
set_option maxRecDepth 100000 in
set_option maxHeartbeats 1000000 in
theorem wire_ReadBytes.c {B : World} {hs : List MP} {w : World} {i0 c0 : Nat} {A0 : Option Addr} {l0 : List UInt8} {a1 : Int} {a2 : Int} (hS : St B (hs) w) (h0 : (hs)[i0]? = some (Ro E8 A0 c0 l0)) {r : List UInt8 × Int × Int} (hr : wire_ReadBytes.impl l0 a1 a2 = some r) :
    Calls Try.prog 15 #[.slice A0 l0.length c0, .int .i64 a1, .int .i64 a2] w fun e w' => ∃ x : (Option Addr × Nat), e = .returned (.tuple #[.slice x.1 r.1.length x.2, .int .i64 r.2.1, .int .i64 r.2.2]) ∧ St B (Bf E8 5 x.1 x.2 r.1 :: hs) w' := by
  unfold wire_ReadBytes.impl at hr
  refine calls_T Try.func15 rfl rfl rfl hS ?_
  refine T.front i0 h0 ?_
  refine T.seq ?_
  refine T.region ?_
  refine T.assign .list rfl (wants0 rfl) rfl rfl ?_
  refine T.assign .list rfl (wants0 rfl) rfl rfl ?_
  refine T.assign .list rfl (wants0 rfl) rfl rfl ?_
  refine T.nil ?_
  refine T.then_normal ?_
  refine T.seq ?_
  refine T.region ?_
  refine T.move .list rfl (wants0 rfl) rfl rfl ?_
  refine T.move .list rfl (wants0 rfl) rfl rfl ?_
  obtain ⟨r1, hg1, hr⟩ := inv_bind hr
  refine T.call .list (wants0 rfl) rfl (run_callF (vs := [_, _]) rfl Try.func12 rfl (by decide) rfl) (fun w hS => wire_ReadUint.c hS (i0 := 0) rfl hg1) (fun x1 => ?_)
  refine T.move .list rfl (wants0 rfl) rfl rfl ?_
  refine T.extract .list rfl (wants0 rfl) rfl rfl rfl ?_
  refine T.extract .list rfl (wants0 rfl) rfl rfl rfl ?_
  refine T.extract .list rfl (wants0 rfl) rfl rfl rfl ?_
  refine T.assign .list rfl (wants0 rfl) rfl rfl ?_
  refine T.assign .list rfl (wants0 rfl) rfl rfl ?_
  refine T.assign .list rfl (wants0 rfl) rfl rfl ?_
  refine T.nil ?_
  refine T.then_normal ?_
  refine T.seq ?_
  refine T.block ?_
  refine T.seq ?_
  refine T.region ?_
  refine T.move .list rfl (wants0 rfl) rfl rfl ?_
  refine T.bin .list rfl (wants0 rfl) rfl rfl rfl rfl ?_
  refine T.assign .list rfl (wants0 rfl) rfl rfl ?_
  refine T.nil ?_
  refine T.then_normal ?_
  refine T.cond rfl (fun hb1 => ?_) (fun hb1 => ?_)
  · replace hr := inv_posB hb1 hr
    refine T.seq ?_
    refine T.region ?_
    refine T.move .list rfl (wants0 rfl) rfl rfl ?_
    refine T.assign .list rfl (wants0 rfl) rfl rfl ?_
    refine T.assign .list rfl (wants0 rfl) rfl rfl ?_
    refine T.assign .list rfl (wants0 rfl) rfl rfl ?_
    refine T.nil ?_
    refine T.then_normal ?_
    refine T.ret ?_
    refine T.in_ret ?_
    refine T.then_ret ?_
    obtain rfl := inv_some hr
    refine T.nilBf E8 5 ?_
    refine T.pick [0] 2 rfl rfl (Nat.le_add_left _ _) rfl ?_
    refine T.ret3 rfl rfl rfl rfl (fun w hS => ⟨(none, 0), rfl, hS⟩)
  · replace hr := inv_negB hb1 hr
    refine T.seq ?_
    refine T.region ?_
    refine T.move .list rfl (wants0 rfl) rfl rfl ?_
    refine T.bin .list rfl (wants0 rfl) rfl rfl rfl rfl ?_
    refine T.assign .list rfl (wants0 rfl) rfl rfl ?_
    refine T.nil ?_
    refine T.then_normal ?_
    refine T.cond rfl (fun hb2 => ?_) (fun hb2 => ?_)
    · replace hr := inv_posB hb2 hr
      refine T.seq ?_
      refine T.region ?_
      refine T.assign .list rfl (wants0 rfl) rfl rfl ?_
      refine T.assign .list rfl (wants0 rfl) rfl rfl ?_
      refine T.assign .list rfl (wants0 rfl) rfl rfl ?_
      refine T.nil ?_
      refine T.then_normal ?_
      refine T.ret ?_
      refine T.in_ret ?_
      refine T.then_ret ?_
      obtain rfl := inv_some hr
      refine T.nilBf E8 5 ?_
      refine T.pick [0] 2 rfl rfl (Nat.le_add_left _ _) rfl ?_
      refine T.ret3 rfl rfl rfl rfl (fun w hS => ⟨(none, 0), rfl, hS⟩)
    · replace hr := inv_negB hb2 hr
      refine T.seq ?_
      refine T.region ?_
      refine T.move .list rfl (wants0 rfl) rfl rfl ?_
      refine T.move .list rfl (wants0 rfl) rfl rfl ?_
      refine T.bin .list rfl (wants0 rfl) rfl rfl rfl rfl ?_
      refine T.assign .list rfl (wants0 rfl) rfl rfl ?_
      refine T.nil ?_
      refine T.then_normal ?_
      refine T.cond rfl (fun hb3 => ?_) (fun hb3 => ?_)
      · replace hr := inv_posB hb3 hr
        refine T.seq ?_
        refine T.region ?_
        refine T.assign .list rfl (wants0 rfl) rfl rfl ?_
        refine T.assign .list rfl (wants0 rfl) rfl rfl ?_
        refine T.assign .list rfl (wants0 rfl) rfl rfl ?_
        refine T.nil ?_
        refine T.then_normal ?_
        refine T.ret ?_
        refine T.in_ret ?_
        refine T.then_ret ?_
        obtain rfl := inv_some hr
        refine T.nilBf E8 5 ?_
        refine T.pick [0] 2 rfl rfl (Nat.le_add_left _ _) rfl ?_
        refine T.ret3 rfl rfl rfl rfl (fun w hS => ⟨(none, 0), rfl, hS⟩)
      · replace hr := inv_negB hb3 hr
        refine T.seq ?_
        refine T.region ?_
        refine T.move .list rfl (wants0 rfl) rfl rfl ?_
        refine T.move .list rfl (wants0 rfl) rfl rfl ?_
        refine T.lenSlice .list rfl (wants0 rfl) rfl rfl ?_
        refine T.move .list rfl (wants0 rfl) rfl rfl ?_
        refine T.bin .list rfl (wants0 rfl) rfl rfl rfl rfl ?_
        refine T.bin .list rfl (wants0 rfl) rfl rfl rfl rfl ?_
        refine T.assign .list rfl (wants0 rfl) rfl rfl ?_
        refine T.nil ?_
        refine T.then_normal ?_
        refine T.cond rfl (fun hb4 => ?_) (fun hb4 => ?_)
        · replace hr := inv_posB hb4 hr
          refine T.seq ?_
          refine T.region ?_
          refine T.assign .list rfl (wants0 rfl) rfl rfl ?_
          refine T.assign .list rfl (wants0 rfl) rfl rfl ?_
          refine T.assign .list rfl (wants0 rfl) rfl rfl ?_
          refine T.nil ?_
          refine T.then_normal ?_
          refine T.ret ?_
          refine T.in_ret ?_
          refine T.then_ret ?_
          obtain rfl := inv_some hr
          refine T.nilBf E8 5 ?_
          refine T.pick [0] 2 rfl rfl (Nat.le_add_left _ _) rfl ?_
          refine T.ret3 rfl rfl rfl rfl (fun w hS => ⟨(none, 0), rfl, hS⟩)
        · replace hr := inv_negB hb4 hr
          refine T.skip ?_
          refine T.in_normal ?_
          refine T.then_normal ?_
          refine T.seq ?_
          refine T.region ?_
          refine T.move .list rfl (wants0 rfl) rfl rfl ?_
          refine T.move .list rfl (wants0 rfl) rfl rfl ?_
          refine T.move .list rfl (wants0 rfl) rfl rfl ?_
          refine T.move .list rfl (wants0 rfl) rfl rfl ?_
          refine T.bin .list rfl (wants0 rfl) rfl rfl rfl rfl ?_
          obtain ⟨hc1, hr⟩ := inv_chk hr
          refine T.cut .list 0 rfl rfl rfl (wants0 rfl) rfl rfl (.inr ⟨_, _, rfl, rfl⟩) (.inr ⟨_, _, rfl, rfl⟩) hc1.1 hc1.2.1 hc1.2.2 ?_
          refine T.nilBf E8 5 ?_
          obtain ⟨hc2, hr⟩ := inv_chk hr
          refine T.appRo .list 0 1 rfl rfl rfl rfl rfl (wants0 rfl) rfl rfl rfl rfl rfl rfl hc2 (fun _ _ => rfl) (fun A4 c4 => ?_)
          refine T.move .list rfl (wants0 rfl) rfl rfl ?_
          refine T.move .list rfl (wants0 rfl) rfl rfl ?_
          refine T.bin .list rfl (wants0 rfl) rfl rfl rfl rfl ?_
          refine T.assign .list rfl (wants0 rfl) rfl rfl ?_
          refine T.assign .list rfl (wants0 rfl) rfl rfl ?_
          refine T.assign .list rfl (wants0 rfl) rfl rfl ?_
          refine T.nil ?_
          refine T.then_normal ?_
          refine T.ret ?_
          obtain rfl := inv_some hr
          refine T.pick [0] 3 rfl rfl (Nat.le_add_left _ _) rfl ?_
          refine T.ret3 rfl rfl rfl rfl (fun w hS => ⟨(A4, c4), rfl, hS⟩)

noncomputable def ref1_Sum.k1 (s1 : Int) : Option Int :=
  some (bitsOf .xor .u32 (if IntKind.signed .u32 then -1 else IntKind.max .u32) s1)
noncomputable def ref1_Sum.k2 (s2 : Int × Int) (s3 : Int) : Option ((Int × Int) ⊕ Int) :=
  some (.inl (s3, IntKind.i64.wrap (s2.2 + 1)))
noncomputable def ref1_Sum.k3 (s4 : Int × Int) (s5 : Int) : Option ((Int × Int) ⊕ Int) :=
  some (.inl (s5, IntKind.i64.wrap (s4.2 + 1)))
noncomputable def ref1_Sum.st2 (s4 : Int × Int) : Option ((Int × Int) ⊕ Int) :=
  (if ((decide (s4.2 < 8))) = true then (if ((decide (((bitsOf .and .u32 s4.1 1)) = 1))) = true then ref1_Sum.k3 s4 (bitsOf .xor .u32 (shrI .u32 s4.1 1) 2197175160) else ref1_Sum.k3 s4 (shrI .u32 s4.1 1)) else some (.inr s4.1))
noncomputable def ref1_Sum.st1 (l0 : List UInt8) (s2 : Int × Int) : Option ((Int × Int) ⊕ Int) :=
  (if ((decide (s2.2 < ((l0.length : Int))))) = true then chk (0 ≤ s2.2 ∧ s2.2 < (l0.length : Int)) ((loop (ref1_Sum.st2) (bitsOf .xor .u32 s2.1 (IntKind.u32.wrap ((((l0).getD (s2.2 : Int).toNat default).toNat : Int))), 0)).bind (fun e2 => ref1_Sum.k2 s2 e2)) else some (.inr s2.1))
noncomputable def ref1_Sum.impl (l0 : List UInt8) : Option Int :=
  (loop (ref1_Sum.st1 l0) (4294967295, 0)).bind (fun e1 => ref1_Sum.k1 e1)
set_option maxRecDepth 100000 in
set_option maxHeartbeats 1000000 in
theorem ref1_Sum.c {B : World} {hs : List MP} {w : World} {i0 c0 : Nat} {A0 : Option Addr} {l0 : List UInt8} (hS : St B (hs) w) (h0 : (hs)[i0]? = some (Ro E8 A0 c0 l0)) {r : Int} (hr : ref1_Sum.impl l0 = some r) :
    Calls Try.prog 11 #[.slice A0 l0.length c0] w fun e w' => ∃ x : Unit, e = .returned (.int .u32 r) ∧ St B (hs) w' := by
  unfold ref1_Sum.impl at hr
  refine calls_T Try.func11 rfl rfl rfl hS ?_
  refine T.front i0 h0 ?_
  refine T.seq ?_
  refine T.region ?_
  refine T.assign .list rfl (wants0 rfl) rfl rfl ?_
  refine T.nil ?_
  refine T.then_normal ?_
  refine T.seq ?_
  refine T.region ?_
  refine T.assign .list rfl (wants0 rfl) rfl rfl ?_
  refine T.nil ?_
  refine T.then_normal ?_
  refine T.seqJ (fun (s1 : Int) (x1 : Unit) => [(3, .int .u32 s1)]) (fun s1 x1 => hs) (fun s1 => ref1_Sum.k1 s1 = some r) (fun s1 x1 hk1 => ?_) (fun J1 => ?_)
  · unfold ref1_Sum.k1 at hk1
    refine T.seq ?_
    refine T.region ?_
    refine T.move .list rfl (wants0 rfl) rfl rfl ?_
    refine T.compl .list rfl (wants0 rfl) rfl rfl ?_
    refine T.assign .list rfl (wants0 rfl) rfl rfl ?_
    refine T.nil ?_
    refine T.then_normal ?_
    refine T.ret ?_
    obtain rfl := inv_some hk1
    refine T.pick [] 0 rfl rfl (Nat.le_add_left _ _) rfl ?_
    refine T.ret1 rfl rfl (fun w hS => ⟨(), rfl, hS⟩)
  · refine T.seq ?_
    refine T.region ?_
    refine T.assign .list rfl (wants0 rfl) rfl rfl ?_
    refine T.nil ?_
    refine T.then_normal ?_
    refine T.block ?_
    obtain ⟨e1, hl1, hr⟩ := inv_bind hr
    refine T.le (EnvLe.cons rfl (EnvLe.cons rfl (EnvLe.cons rfl EnvLe.nil))) (T.pick [0] 1 rfl rfl (Nat.le_add_left _ _) rfl (T.loop (s0 := (4294967295, 0)) (env := fun s2 x2 => [(0, .slice A0 l0.length c0), (3, .int .u32 s2.1), (4, .int .i64 s2.2)]) (hs := fun (s2 : Int × Int) (x2 : Unit) => Ro E8 A0 c0 l0 :: hs) hl1 () (fun K1 s2 x2 o1 he1 hm1 hx1 => ?_)))
    unfold ref1_Sum.st1 at he1
    refine T.seq ?_
    refine T.seq ?_
    refine T.region ?_
    refine T.move .list rfl (wants0 rfl) rfl rfl ?_
    refine T.move .list rfl (wants0 rfl) rfl rfl ?_
    refine T.lenSlice .list rfl (wants0 rfl) rfl rfl ?_
    refine T.bin .list rfl (wants0 rfl) rfl rfl rfl rfl ?_
    refine T.nil ?_
    refine T.then_normal ?_
    refine T.cond rfl (fun hb1 => ?_) (fun hb1 => ?_)
    · replace he1 := inv_posB hb1 he1
      refine T.skip ?_
      refine T.then_normal ?_
      refine T.seqJ (fun (s3 : Int) (x3 : Unit) => [(0, .slice A0 l0.length c0), (3, .int .u32 s3), (4, .int .i64 s2.2)]) (fun s3 x3 => Ro E8 A0 c0 l0 :: hs) (fun s3 => ref1_Sum.k2 s2 s3 = some o1) (fun s3 x3 hk2 => ?_) (fun J2 => ?_)
      · unfold ref1_Sum.k2 at hk2
        refine T.region ?_
        refine T.move .list rfl (wants0 rfl) rfl rfl ?_
        refine T.bin .list rfl (wants0 rfl) rfl rfl rfl rfl ?_
        refine T.assign .list rfl (wants0 rfl) rfl rfl ?_
        refine T.nil ?_
        refine T.then_normal ?_
        obtain rfl := inv_some hk2
        exact T.le (EnvLe.cons rfl (EnvLe.cons rfl (EnvLe.cons rfl EnvLe.nil))) (T.pick [0] 1 rfl rfl (Nat.le_add_left _ _) rfl (hm1 _ rfl ()))
      · refine T.block ?_
        refine T.seq ?_
        refine T.region ?_
        refine T.move .list rfl (wants0 rfl) rfl rfl ?_
        refine T.move .list rfl (wants0 rfl) rfl rfl ?_
        refine T.move .list rfl (wants0 rfl) rfl rfl ?_
        obtain ⟨hc1, he1⟩ := inv_chk he1
        refine T.idxRo .list 0 rfl rfl (wants0 rfl) rfl rfl rfl hc1.1 hc1.2 (Nat.le_refl _) ?_
        refine T.ldRo1 .list 0 rfl rfl (wants0 rfl) rfl rfl hc1.1 hc1.2 ?_
        refine T.conv .list rfl (wants0 rfl) rfl rfl rfl ?_
        refine T.bin .list rfl (wants0 rfl) rfl rfl rfl rfl ?_
        refine T.assign .list rfl (wants0 rfl) rfl rfl ?_
        refine T.nil ?_
        refine T.then_normal ?_
        refine T.seq ?_
        refine T.region ?_
        refine T.assign .list rfl (wants0 rfl) rfl rfl ?_
        refine T.nil ?_
        refine T.then_normal ?_
        refine T.block ?_
        obtain ⟨e2, hl2, he1⟩ := inv_bind he1
        refine T.le (EnvLe.cons rfl (EnvLe.cons rfl (EnvLe.cons rfl (EnvLe.cons rfl EnvLe.nil)))) (T.pick [0] 1 rfl rfl (Nat.le_add_left _ _) rfl (T.loop (s0 := (bitsOf .xor .u32 s2.1 (IntKind.u32.wrap ((((l0).getD (s2.2 : Int).toNat default).toNat : Int))), 0)) (env := fun s4 x4 => [(0, .slice A0 l0.length c0), (3, .int .u32 s4.1), (4, .int .i64 s2.2), (5, .int .i64 s4.2)]) (hs := fun (s4 : Int × Int) (x4 : Unit) => Ro E8 A0 c0 l0 :: hs) hl2 () (fun K2 s4 x4 o2 he2 hm2 hx2 => ?_)))
        unfold ref1_Sum.st2 at he2
        refine T.seq ?_
        refine T.seq ?_
        refine T.region ?_
        refine T.move .list rfl (wants0 rfl) rfl rfl ?_
        refine T.bin .list rfl (wants0 rfl) rfl rfl rfl rfl ?_
        refine T.nil ?_
        refine T.then_normal ?_
        refine T.cond rfl (fun hb2 => ?_) (fun hb2 => ?_)
        · replace he2 := inv_posB hb2 he2
          refine T.skip ?_
          refine T.then_normal ?_
          refine T.seqJ (fun (s5 : Int) (x5 : Unit) => [(0, .slice A0 l0.length c0), (3, .int .u32 s5), (4, .int .i64 s2.2), (5, .int .i64 s4.2)]) (fun s5 x5 => Ro E8 A0 c0 l0 :: hs) (fun s5 => ref1_Sum.k3 s4 s5 = some o2) (fun s5 x5 hk3 => ?_) (fun J3 => ?_)
          · unfold ref1_Sum.k3 at hk3
            refine T.region ?_
            refine T.move .list rfl (wants0 rfl) rfl rfl ?_
            refine T.bin .list rfl (wants0 rfl) rfl rfl rfl rfl ?_
            refine T.assign .list rfl (wants0 rfl) rfl rfl ?_
            refine T.nil ?_
            refine T.then_normal ?_
            obtain rfl := inv_some hk3
            exact T.le (EnvLe.cons rfl (EnvLe.cons rfl (EnvLe.cons rfl (EnvLe.cons rfl EnvLe.nil)))) (T.pick [0] 1 rfl rfl (Nat.le_add_left _ _) rfl (hm2 _ rfl ()))
          · refine T.block ?_
            refine T.seq ?_
            refine T.region ?_
            refine T.move .list rfl (wants0 rfl) rfl rfl ?_
            refine T.bin .list rfl (wants0 rfl) rfl rfl rfl rfl ?_
            refine T.assign .list rfl (wants0 rfl) rfl rfl ?_
            refine T.nil ?_
            refine T.then_normal ?_
            refine T.seq ?_
            refine T.region ?_
            refine T.move .list rfl (wants0 rfl) rfl rfl ?_
            refine T.shr .list rfl (wants0 rfl) rfl rfl rfl (by decide) ?_
            refine T.assign .list rfl (wants0 rfl) rfl rfl ?_
            refine T.nil ?_
            refine T.then_normal ?_
            refine T.seq ?_
            refine T.region ?_
            refine T.move .list rfl (wants0 rfl) rfl rfl ?_
            refine T.bin .list rfl (wants0 rfl) rfl rfl rfl rfl ?_
            refine T.nil ?_
            refine T.then_normal ?_
            refine T.cond rfl (fun hb3 => ?_) (fun hb3 => ?_)
            · replace he2 := inv_posB hb3 he2
              refine T.region ?_
              refine T.move .list rfl (wants0 rfl) rfl rfl ?_
              refine T.bin .list rfl (wants0 rfl) rfl rfl rfl rfl ?_
              refine T.assign .list rfl (wants0 rfl) rfl rfl ?_
              refine T.nil ?_
              refine T.in_normal ?_
              refine T.then_normal ?_
              exact T.le (EnvLe.cons rfl (EnvLe.cons rfl (EnvLe.cons rfl (EnvLe.cons rfl EnvLe.nil)))) (T.pick [0] 1 rfl rfl (Nat.le_add_left _ _) rfl (J3 (bitsOf .xor .u32 (shrI .u32 s4.1 1) 2197175160) () he2))
            · replace he2 := inv_negB hb3 he2
              refine T.skip ?_
              refine T.in_normal ?_
              refine T.then_normal ?_
              exact T.le (EnvLe.cons rfl (EnvLe.cons rfl (EnvLe.cons rfl (EnvLe.cons rfl EnvLe.nil)))) (T.pick [0] 1 rfl rfl (Nat.le_add_left _ _) rfl (J3 (shrI .u32 s4.1 1) () he2))
        · replace he2 := inv_negB hb2 he2
          refine T.exit ?_
          refine T.then_exit ?_
          refine T.then_exit ?_
          obtain rfl := inv_some he2
          obtain rfl := hx2 _ rfl
          refine T.in_hit ?_
          refine T.in_normal ?_
          refine T.then_normal ?_
          exact T.le (EnvLe.cons rfl (EnvLe.cons rfl (EnvLe.cons rfl EnvLe.nil))) (T.pick [0] 1 rfl rfl (Nat.le_add_left _ _) rfl (J2 s4.1 () he1))
    · replace he1 := inv_negB hb1 he1
      refine T.exit ?_
      refine T.then_exit ?_
      refine T.then_exit ?_
      obtain rfl := inv_some he1
      obtain rfl := hx1 _ rfl
      refine T.in_hit ?_
      refine T.then_normal ?_
      exact T.le (EnvLe.cons rfl EnvLe.nil) (T.pick [] 1 rfl rfl (Nat.le_add_left _ _) rfl (J1 s2.1 () hr))

noncomputable def wire_tables_fill.k2 (s2 : List Int × Int) (s3 : List Int) : Option ((List Int × Int) ⊕ (List Int)) :=
  some (.inl (s3, IntKind.i64.wrap (s2.2 + 1)))
noncomputable def wire_tables_fill.st2 (s2 : List Int × Int) (s4 : List Int × Int) : Option ((List Int × Int) ⊕ (List Int)) :=
  (if ((decide (s4.2 < 256))) = true then chk ((0 ≤ s4.2 ∧ s4.2 < 256) ∧ 256 ≤ (((s2.1).drop ((0 + (IntKind.i64.wrap (s2.2 - 1) : Int).toNat * 256))).take 256).length) (chk (0 ≤ (bitsOf .and .u32 (((((s2.1).drop ((0 + (IntKind.i64.wrap (s2.2 - 1) : Int).toNat * 256))).take 256).getD (s4.2 : Int).toNat default)) 255) ∧ (bitsOf .and .u32 (((((s2.1).drop ((0 + (IntKind.i64.wrap (s2.2 - 1) : Int).toNat * 256))).take 256).getD (s4.2 : Int).toNat default)) 255) < 256) (chk (0 ≤ s2.2 ∧ s2.2 < 4) (chk (((0 + (0 : Int).toNat * 256) + (bitsOf .and .u32 (((((s2.1).drop ((0 + (IntKind.i64.wrap (s2.2 - 1) : Int).toNat * 256))).take 256).getD (s4.2 : Int).toNat default)) 255 : Int).toNat * 1) < s4.1.length) (chk (0 ≤ s4.2 ∧ s4.2 < 256) (chk (((0 + (s2.2 : Int).toNat * 256) + (s4.2 : Int).toNat * 1) < s4.1.length) (some (.inl (((s4.1).set (((0 + (s2.2 : Int).toNat * 256) + (s4.2 : Int).toNat * 1)) (bitsOf .xor .u32 (shrI .u32 (((((s2.1).drop ((0 + (IntKind.i64.wrap (s2.2 - 1) : Int).toNat * 256))).take 256).getD (s4.2 : Int).toNat default)) 8) (((s4.1).getD (((0 + (0 : Int).toNat * 256) + (bitsOf .and .u32 (((((s2.1).drop ((0 + (IntKind.i64.wrap (s2.2 - 1) : Int).toNat * 256))).take 256).getD (s4.2 : Int).toNat default)) 255 : Int).toNat * 1)) default)))), IntKind.i64.wrap (s4.2 + 1))))))))) else some (.inr s4.1))
noncomputable def wire_tables_fill.st1 (s2 : List Int × Int) : Option ((List Int × Int) ⊕ (List Int)) :=
  (if ((decide (s2.2 < 4))) = true then chk (0 ≤ (IntKind.i64.wrap (s2.2 - 1)) ∧ (IntKind.i64.wrap (s2.2 - 1)) < 4) (chk ((0 + (IntKind.i64.wrap (s2.2 - 1) : Int).toNat * 256) + 256 ≤ s2.1.length) ((loop (wire_tables_fill.st2 s2) (s2.1, 0)).bind (fun e2 => wire_tables_fill.k2 s2 e2))) else some (.inr s2.1))
noncomputable def wire_tables_fill.k1 (s1 : List Int) : Option (List Int) :=
  (loop (wire_tables_fill.st1) (s1, 1)).bind (fun e1 => some e1)
noncomputable def wire_tables_fill.k3 (s5 : List Int × Int) (s6 : List Int) : Option ((List Int × Int) ⊕ (List Int)) :=
  some (.inl (s6, IntKind.i64.wrap (s5.2 + 1)))
noncomputable def wire_tables_fill.k4 (s5 : List Int × Int) (s7 : Int) : Option ((List Int × Int) ⊕ (List Int)) :=
  chk (0 ≤ s5.2 ∧ s5.2 < 256) (chk (((0 + (0 : Int).toNat * 256) + (s5.2 : Int).toNat * 1) < s5.1.length) (wire_tables_fill.k3 s5 ((s5.1).set (((0 + (0 : Int).toNat * 256) + (s5.2 : Int).toNat * 1)) s7)))
noncomputable def wire_tables_fill.st4 (s8 : Int × Int) : Option ((Int × Int) ⊕ Int) :=
  (if ((decide (s8.2 < 8))) = true then (if ((decide (((bitsOf .and .u32 s8.1 1)) = 1))) = true then some (.inl (bitsOf .xor .u32 (shrI .u32 s8.1 1) 2197175160, IntKind.i64.wrap (s8.2 + 1))) else some (.inl (shrI .u32 s8.1 1, IntKind.i64.wrap (s8.2 + 1)))) else some (.inr s8.1))
noncomputable def wire_tables_fill.st3 (s5 : List Int × Int) : Option ((List Int × Int) ⊕ (List Int)) :=
  (if ((decide (s5.2 < 256))) = true then (loop (wire_tables_fill.st4) (IntKind.u32.wrap s5.2, 0)).bind (fun e4 => wire_tables_fill.k4 s5 e4) else some (.inr s5.1))
noncomputable def wire_tables_fill.impl (l0 : List Int) : Option (List Int) :=
  (loop (wire_tables_fill.st3) (l0, 0)).bind (fun e3 => wire_tables_fill.k1 e3)
set_option maxRecDepth 100000 in
set_option maxHeartbeats 1000000 in
theorem wire_tables_fill.c {B : World} {hs : List MP} {w : World} {p0 : Nat} {l0 : List Int} (hS : St B (Cl p0 44 (l0.map (Value.int .u32)) :: hs) w) {r : List Int} (hr : wire_tables_fill.impl l0 = some r) :
    Calls Try.prog 16 #[.pointer (some ⟨p0, 0, none⟩)] w fun e w' => ∃ x : Unit, e = .returned (.tuple #[]) ∧ St B (Cl p0 44 (r.map (Value.int .u32)) :: hs) w' := by
  unfold wire_tables_fill.impl at hr
  refine calls_T Try.func16 rfl rfl rfl hS ?_
  refine T.seqJ (fun (s1 : List Int) (x1 : Unit) => [(0, .pointer (some ⟨p0, 0, none⟩))]) (fun s1 x1 => Cl p0 44 (s1.map (Value.int .u32)) :: hs) (fun s1 => wire_tables_fill.k1 s1 = some r) (fun s1 x1 hk1 => ?_) (fun J1 => ?_)
  · unfold wire_tables_fill.k1 at hk1
    refine T.seq ?_
    refine T.region ?_
    refine T.assign .list rfl (wants0 rfl) rfl rfl ?_
    refine T.nil ?_
    refine T.then_normal ?_
    refine T.block ?_
    obtain ⟨e1, hl1, hk1⟩ := inv_bind hk1
    refine T.le (EnvLe.cons rfl (EnvLe.cons rfl EnvLe.nil)) (T.pick [0] 1 rfl rfl (Nat.le_add_left _ _) rfl (T.loop (s0 := (s1, 1)) (env := fun s2 x2 => [(0, .pointer (some ⟨p0, 0, none⟩)), (5, .int .i64 s2.2)]) (hs := fun (s2 : List Int × Int) (x2 : Unit) => Cl p0 44 (s2.1.map (Value.int .u32)) :: hs) hl1 () (fun K1 s2 x2 o1 he1 hm1 hx1 => ?_)))
    unfold wire_tables_fill.st1 at he1
    refine T.seq ?_
    refine T.seq ?_
    refine T.region ?_
    refine T.move .list rfl (wants0 rfl) rfl rfl ?_
    refine T.bin .list rfl (wants0 rfl) rfl rfl rfl rfl ?_
    refine T.nil ?_
    refine T.then_normal ?_
    refine T.cond rfl (fun hb1 => ?_) (fun hb1 => ?_)
    · replace he1 := inv_posB hb1 he1
      refine T.skip ?_
      refine T.then_normal ?_
      refine T.seqJ (fun (s3 : List Int) (x3 : Unit) => [(0, .pointer (some ⟨p0, 0, none⟩)), (5, .int .i64 s2.2)]) (fun s3 x3 => Cl p0 44 (s3.map (Value.int .u32)) :: hs) (fun s3 => wire_tables_fill.k2 s2 s3 = some o1) (fun s3 x3 hk2 => ?_) (fun J2 => ?_)
      · unfold wire_tables_fill.k2 at hk2
        refine T.region ?_
        refine T.move .list rfl (wants0 rfl) rfl rfl ?_
        refine T.bin .list rfl (wants0 rfl) rfl rfl rfl rfl ?_
        refine T.assign .list rfl (wants0 rfl) rfl rfl ?_
        refine T.nil ?_
        refine T.then_normal ?_
        obtain rfl := inv_some hk2
        exact T.le (EnvLe.cons rfl (EnvLe.cons rfl EnvLe.nil)) (T.pick [0] 1 rfl rfl (Nat.le_add_left _ _) rfl (hm1 _ rfl ()))
      · refine T.block ?_
        refine T.seq ?_
        refine T.region ?_
        refine T.move .list rfl (wants0 rfl) rfl rfl ?_
        refine T.move .list rfl (wants0 rfl) rfl rfl ?_
        refine T.bin .list rfl (wants0 rfl) rfl rfl rfl rfl ?_
        refine T.nilCheck .list rfl (wants0 rfl) rfl rfl ?_
        obtain ⟨hc1, he1⟩ := inv_chk he1
        refine T.idxArr .list rfl (wants0 rfl) rfl rfl rfl hc1.1 hc1.2 ?_
        obtain ⟨hc2, he1⟩ := inv_chk he1
        refine T.ldArrN .list 0 rfl rfl (wants0 rfl) rfl rfl hc2 ?_
        refine T.move .list rfl (wants0 rfl) rfl rfl ?_
        refine T.nil ?_
        refine T.then_normal ?_
        refine T.block ?_
        obtain ⟨e2, hl2, he1⟩ := inv_bind he1
        refine T.le (EnvLe.cons rfl (EnvLe.cons rfl (EnvLe.cons rfl (EnvLe.cons rfl EnvLe.nil)))) (T.pick [0] 1 rfl rfl (Nat.le_add_left _ _) rfl (T.loop (s0 := (s2.1, 0)) (env := fun s4 x4 => [(0, .pointer (some ⟨p0, 0, none⟩)), (5, .int .i64 s2.2), (40, .agg ((((s2.1).drop ((0 + (IntKind.i64.wrap (s2.2 - 1) : Int).toNat * 256))).take 256).map (Value.int .u32)).toArray), (41, .int .i64 s4.2)]) (hs := fun (s4 : List Int × Int) (x4 : Unit) => Cl p0 44 (s4.1.map (Value.int .u32)) :: hs) hl2 () (fun K2 s4 x4 o2 he2 hm2 hx2 => ?_)))
        unfold wire_tables_fill.st2 at he2
        refine T.seq ?_
        refine T.region ?_
        refine T.bin .list rfl (wants0 rfl) rfl rfl rfl rfl ?_
        refine T.nil ?_
        refine T.then_normal ?_
        refine T.seq ?_
        refine T.cond rfl (fun hb2 => ?_) (fun hb2 => ?_)
        · replace he2 := inv_posB hb2 he2
          refine T.skip ?_
          refine T.then_normal ?_
          refine T.seq ?_
          refine T.block ?_
          refine T.seq ?_
          refine T.region ?_
          refine T.move .list rfl (wants0 rfl) rfl rfl ?_
          obtain ⟨hc3, he2⟩ := inv_chk he2
          refine T.indexAgg .list (L := (((s2.1).drop ((0 + (IntKind.i64.wrap (s2.2 - 1) : Int).toNat * 256))).take 256)) rfl (wants0 rfl) rfl rfl rfl hc3.1.1 hc3.1.2 hc3.2 (fun _ => rfl) ?_
          refine T.assign .list rfl (wants0 rfl) rfl rfl ?_
          refine T.assign .list rfl (wants0 rfl) rfl rfl ?_
          refine T.nil ?_
          refine T.then_normal ?_
          refine T.plan [(0, 0), (1, 0), (2, 0), (3, 0), (4, 0), (5, 0), (6, 0), (7, 0), (8, 0), (9, 0), (10, 0), (13, 0), (14, 0), (11, 1), (12, 0), (15, 0), (16, 2)] mixed (by kernel_rfl) (by kernel_rfl) rfl (fun d _ _ _ _ h => by cases d <;> exact h) ?_
          refine T.move (.plan rfl) rfl (wants0 rfl) rfl rfl ?_
          refine T.move (.plan rfl) rfl (wants0 rfl) rfl rfl ?_
          refine T.move (.plan rfl) rfl (wants0 rfl) rfl rfl ?_
          refine T.move (.plan rfl) rfl (wants0 rfl) rfl rfl ?_
          refine T.shr (.plan rfl) rfl (wants0 rfl) rfl rfl rfl (by decide) ?_
          refine T.move (.plan rfl) rfl (wants0 rfl) rfl rfl ?_
          refine T.move (.plan rfl) rfl (wants0 rfl) rfl rfl ?_
          refine T.bin (.plan rfl) rfl (wants0 rfl) rfl rfl rfl rfl ?_
          refine T.nilCheck (.plan rfl) rfl (wants0 rfl) rfl rfl ?_
          refine T.idxArr (.plan rfl) rfl (wants0 rfl) rfl rfl rfl (by decide) (by decide) ?_
          obtain ⟨hc4, he2⟩ := inv_chk he2
          refine T.idxArr (.plan rfl) rfl (wants0 rfl) rfl rfl rfl hc4.1 hc4.2 ?_
          refine T.nilCheck (.plan rfl) rfl (wants0 rfl) rfl rfl ?_
          obtain ⟨hc5, he2⟩ := inv_chk he2
          refine T.idxArr (.plan rfl) rfl (wants0 rfl) rfl rfl rfl hc5.1 hc5.2 ?_
          obtain ⟨hc6, he2⟩ := inv_chk he2
          refine T.ldArr (.plan rfl) 0 rfl rfl (wants0 rfl) rfl rfl hc6 ?_
          refine T.bin (.plan rfl) rfl (wants0 rfl) rfl rfl rfl rfl ?_
          obtain ⟨hc7, he2⟩ := inv_chk he2
          refine T.idxArr (.plan rfl) rfl (wants0 rfl) rfl rfl rfl hc7.1 hc7.2 ?_
          obtain ⟨hc8, he2⟩ := inv_chk he2
          refine T.stArr (.plan rfl) 0 rfl rfl (wants0 rfl) rfl rfl rfl rfl rfl hc8 rfl ?_
          refine T.planEnd ?_
          refine T.in_normal ?_
          refine T.then_normal ?_
          refine T.region ?_
          refine T.bin .list rfl (wants0 rfl) rfl rfl rfl rfl ?_
          refine T.move .list rfl (wants0 rfl) rfl rfl ?_
          refine T.nil ?_
          refine T.then_normal ?_
          obtain rfl := inv_some he2
          exact T.le (EnvLe.cons rfl (EnvLe.cons rfl (EnvLe.cons rfl (EnvLe.cons rfl EnvLe.nil)))) (T.pick [0] 1 rfl rfl (Nat.le_add_left _ _) rfl (hm2 _ rfl ()))
        · replace he2 := inv_negB hb2 he2
          refine T.exit ?_
          refine T.then_exit ?_
          refine T.then_exit ?_
          obtain rfl := inv_some he2
          obtain rfl := hx2 _ rfl
          refine T.in_hit ?_
          refine T.in_normal ?_
          refine T.then_normal ?_
          exact T.le (EnvLe.cons rfl (EnvLe.cons rfl EnvLe.nil)) (T.pick [0] 1 rfl rfl (Nat.le_add_left _ _) rfl (J2 s4.1 () he1))
    · replace he1 := inv_negB hb1 he1
      refine T.exit ?_
      refine T.then_exit ?_
      refine T.then_exit ?_
      obtain rfl := inv_some he1
      obtain rfl := hx1 _ rfl
      refine T.in_hit ?_
      obtain rfl := inv_some hk1
      refine T.pick [0] 1 rfl rfl (Nat.le_add_left _ _) rfl ?_
      refine T.end0 rfl (fun w hS => ⟨(), rfl, hS⟩)
  · refine T.seq ?_
    refine T.region ?_
    refine T.move .list rfl (wants0 rfl) rfl rfl ?_
    refine T.nil ?_
    refine T.then_normal ?_
    refine T.block ?_
    obtain ⟨e3, hl3, hr⟩ := inv_bind hr
    refine T.le (EnvLe.cons rfl (EnvLe.cons rfl EnvLe.nil)) (T.pick [0] 1 rfl rfl (Nat.le_add_left _ _) rfl (T.loop (s0 := (l0, 0)) (env := fun s5 x5 => [(0, .pointer (some ⟨p0, 0, none⟩)), (8, .int .i64 s5.2)]) (hs := fun (s5 : List Int × Int) (x5 : Unit) => Cl p0 44 (s5.1.map (Value.int .u32)) :: hs) hl3 () (fun K3 s5 x5 o3 he3 hm3 hx3 => ?_)))
    unfold wire_tables_fill.st3 at he3
    refine T.seq ?_
    refine T.region ?_
    refine T.bin .list rfl (wants0 rfl) rfl rfl rfl rfl ?_
    refine T.nil ?_
    refine T.then_normal ?_
    refine T.seq ?_
    refine T.cond rfl (fun hb3 => ?_) (fun hb3 => ?_)
    · replace he3 := inv_posB hb3 he3
      refine T.skip ?_
      refine T.then_normal ?_
      refine T.seqJ (fun (s6 : List Int) (x6 : Unit) => [(0, .pointer (some ⟨p0, 0, none⟩)), (8, .int .i64 s5.2)]) (fun s6 x6 => Cl p0 44 (s6.map (Value.int .u32)) :: hs) (fun s6 => wire_tables_fill.k3 s5 s6 = some o3) (fun s6 x6 hk3 => ?_) (fun J3 => ?_)
      · unfold wire_tables_fill.k3 at hk3
        refine T.region ?_
        refine T.bin .list rfl (wants0 rfl) rfl rfl rfl rfl ?_
        refine T.move .list rfl (wants0 rfl) rfl rfl ?_
        refine T.nil ?_
        refine T.then_normal ?_
        obtain rfl := inv_some hk3
        exact T.le (EnvLe.cons rfl (EnvLe.cons rfl EnvLe.nil)) (T.pick [0] 1 rfl rfl (Nat.le_add_left _ _) rfl (hm3 _ rfl ()))
      · refine T.block ?_
        refine T.seq ?_
        refine T.region ?_
        refine T.move .list rfl (wants0 rfl) rfl rfl ?_
        refine T.assign .list rfl (wants0 rfl) rfl rfl ?_
        refine T.nil ?_
        refine T.then_normal ?_
        refine T.seq ?_
        refine T.region ?_
        refine T.move .list rfl (wants0 rfl) rfl rfl ?_
        refine T.conv .list rfl (wants0 rfl) rfl rfl rfl ?_
        refine T.assign .list rfl (wants0 rfl) rfl rfl ?_
        refine T.nil ?_
        refine T.then_normal ?_
        refine T.seqJ (fun (s7 : Int) (x7 : Unit) => [(0, .pointer (some ⟨p0, 0, none⟩)), (2, .int .i64 s5.2), (3, .int .u32 s7), (8, .int .i64 s5.2)]) (fun s7 x7 => Cl p0 44 (s5.1.map (Value.int .u32)) :: hs) (fun s7 => wire_tables_fill.k4 s5 s7 = some o3) (fun s7 x7 hk4 => ?_) (fun J4 => ?_)
        · unfold wire_tables_fill.k4 at hk4
          refine T.region ?_
          refine T.move .list rfl (wants0 rfl) rfl rfl ?_
          refine T.move .list rfl (wants0 rfl) rfl rfl ?_
          refine T.move .list rfl (wants0 rfl) rfl rfl ?_
          refine T.nilCheck .list rfl (wants0 rfl) rfl rfl ?_
          refine T.idxArr .list rfl (wants0 rfl) rfl rfl rfl (by decide) (by decide) ?_
          obtain ⟨hc9, hk4⟩ := inv_chk hk4
          refine T.idxArr .list rfl (wants0 rfl) rfl rfl rfl hc9.1 hc9.2 ?_
          obtain ⟨hc10, hk4⟩ := inv_chk hk4
          refine T.stArr .list 0 rfl rfl (wants0 rfl) rfl rfl rfl rfl rfl hc10 rfl ?_
          refine T.nil ?_
          refine T.in_normal ?_
          refine T.then_normal ?_
          exact T.le (EnvLe.cons rfl (EnvLe.cons rfl EnvLe.nil)) (T.pick [0] 1 rfl rfl (Nat.le_add_left _ _) rfl (J3 ((s5.1).set (((0 + (0 : Int).toNat * 256) + (s5.2 : Int).toNat * 1)) s7) () hk4))
        · refine T.seq ?_
          refine T.region ?_
          refine T.move .list rfl (wants0 rfl) rfl rfl ?_
          refine T.nil ?_
          refine T.then_normal ?_
          refine T.block ?_
          obtain ⟨e4, hl4, he3⟩ := inv_bind he3
          refine T.le (EnvLe.cons rfl (EnvLe.cons rfl (EnvLe.cons rfl (EnvLe.cons rfl (EnvLe.cons rfl EnvLe.nil))))) (T.pick [0] 1 rfl rfl (Nat.le_add_left _ _) rfl (T.loop (s0 := (IntKind.u32.wrap s5.2, 0)) (env := fun s8 x8 => [(0, .pointer (some ⟨p0, 0, none⟩)), (2, .int .i64 s5.2), (3, .int .u32 s8.1), (8, .int .i64 s5.2), (13, .int .i64 s8.2)]) (hs := fun (s8 : Int × Int) (x8 : Unit) => Cl p0 44 (s5.1.map (Value.int .u32)) :: hs) hl4 () (fun K4 s8 x8 o4 he4 hm4 hx4 => ?_)))
          unfold wire_tables_fill.st4 at he4
          refine T.seq ?_
          refine T.region ?_
          refine T.bin .list rfl (wants0 rfl) rfl rfl rfl rfl ?_
          refine T.nil ?_
          refine T.then_normal ?_
          refine T.seq ?_
          refine T.cond rfl (fun hb4 => ?_) (fun hb4 => ?_)
          · replace he4 := inv_posB hb4 he4
            refine T.skip ?_
            refine T.then_normal ?_
            refine T.seq ?_
            refine T.block ?_
            refine T.seq ?_
            refine T.region ?_
            refine T.move .list rfl (wants0 rfl) rfl rfl ?_
            refine T.bin .list rfl (wants0 rfl) rfl rfl rfl rfl ?_
            refine T.assign .list rfl (wants0 rfl) rfl rfl ?_
            refine T.nil ?_
            refine T.then_normal ?_
            refine T.seq ?_
            refine T.region ?_
            refine T.move .list rfl (wants0 rfl) rfl rfl ?_
            refine T.shr .list rfl (wants0 rfl) rfl rfl rfl (by decide) ?_
            refine T.assign .list rfl (wants0 rfl) rfl rfl ?_
            refine T.nil ?_
            refine T.then_normal ?_
            refine T.seq ?_
            refine T.region ?_
            refine T.move .list rfl (wants0 rfl) rfl rfl ?_
            refine T.bin .list rfl (wants0 rfl) rfl rfl rfl rfl ?_
            refine T.nil ?_
            refine T.then_normal ?_
            refine T.cond rfl (fun hb5 => ?_) (fun hb5 => ?_)
            · replace he4 := inv_posB hb5 he4
              refine T.region ?_
              refine T.move .list rfl (wants0 rfl) rfl rfl ?_
              refine T.bin .list rfl (wants0 rfl) rfl rfl rfl rfl ?_
              refine T.assign .list rfl (wants0 rfl) rfl rfl ?_
              refine T.nil ?_
              refine T.in_normal ?_
              refine T.then_normal ?_
              refine T.region ?_
              refine T.bin .list rfl (wants0 rfl) rfl rfl rfl rfl ?_
              refine T.move .list rfl (wants0 rfl) rfl rfl ?_
              refine T.nil ?_
              refine T.then_normal ?_
              obtain rfl := inv_some he4
              exact T.le (EnvLe.cons rfl (EnvLe.cons rfl (EnvLe.cons rfl (EnvLe.cons rfl (EnvLe.cons rfl EnvLe.nil))))) (T.pick [0] 1 rfl rfl (Nat.le_add_left _ _) rfl (hm4 _ rfl ()))
            · replace he4 := inv_negB hb5 he4
              refine T.skip ?_
              refine T.in_normal ?_
              refine T.then_normal ?_
              refine T.region ?_
              refine T.bin .list rfl (wants0 rfl) rfl rfl rfl rfl ?_
              refine T.move .list rfl (wants0 rfl) rfl rfl ?_
              refine T.nil ?_
              refine T.then_normal ?_
              obtain rfl := inv_some he4
              exact T.le (EnvLe.cons rfl (EnvLe.cons rfl (EnvLe.cons rfl (EnvLe.cons rfl (EnvLe.cons rfl EnvLe.nil))))) (T.pick [0] 1 rfl rfl (Nat.le_add_left _ _) rfl (hm4 _ rfl ()))
          · replace he4 := inv_negB hb4 he4
            refine T.exit ?_
            refine T.then_exit ?_
            refine T.then_exit ?_
            obtain rfl := inv_some he4
            obtain rfl := hx4 _ rfl
            refine T.in_hit ?_
            refine T.then_normal ?_
            exact T.le (EnvLe.cons rfl (EnvLe.cons rfl (EnvLe.cons rfl (EnvLe.cons rfl EnvLe.nil)))) (T.pick [0] 1 rfl rfl (Nat.le_add_left _ _) rfl (J4 s8.1 () he3))
    · replace he3 := inv_negB hb3 he3
      refine T.exit ?_
      refine T.then_exit ?_
      refine T.then_exit ?_
      obtain rfl := inv_some he3
      obtain rfl := hx3 _ rfl
      refine T.in_hit ?_
      refine T.then_normal ?_
      exact T.le (EnvLe.cons rfl EnvLe.nil) (T.pick [0] 1 rfl rfl (Nat.le_add_left _ _) rfl (J1 s5.1 () hr))

noncomputable def wire_Sum.k2 (s2 : Int) : Option Int :=
  some (bitsOf .xor .u32 (if IntKind.signed .u32 then -1 else IntKind.max .u32) s2)
noncomputable def wire_Sum.st1 (s1 : List UInt8 × Int) (r1 : List Int) (s3 : Int × Int) : Option ((Int × Int) ⊕ Int) :=
  (if ((decide (s3.2 < ((s1.1.length : Int))))) = true then chk (0 ≤ s3.2 ∧ s3.2 < (s1.1.length : Int)) (chk (0 ≤ (bitsOf .xor .u8 (IntKind.u8.wrap s3.1) ((((s1.1).getD (s3.2 : Int).toNat default).toNat : Int))) ∧ (bitsOf .xor .u8 (IntKind.u8.wrap s3.1) ((((s1.1).getD (s3.2 : Int).toNat default).toNat : Int))) < 256) (chk (((0 + (0 : Int).toNat * 256) + (bitsOf .xor .u8 (IntKind.u8.wrap s3.1) ((((s1.1).getD (s3.2 : Int).toNat default).toNat : Int)) : Int).toNat * 1) < r1.length) (some (.inl (bitsOf .xor .u32 (shrI .u32 s3.1 8) (((r1).getD (((0 + (0 : Int).toNat * 256) + (bitsOf .xor .u8 (IntKind.u8.wrap s3.1) ((((s1.1).getD (s3.2 : Int).toNat default).toNat : Int)) : Int).toNat * 1)) default)), IntKind.i64.wrap (s3.2 + 1)))))) else some (.inr s3.1))
noncomputable def wire_Sum.k1 (r1 : List Int) (s1 : List UInt8 × Int) : Option Int :=
  (loop (wire_Sum.st1 s1 r1) (s1.2, 0)).bind (fun e1 => wire_Sum.k2 e1)
noncomputable def wire_Sum.st2 (r1 : List Int) (s4 : List UInt8 × Int) : Option ((List UInt8 × Int) ⊕ (List UInt8 × Int)) :=
  (if ((decide ((4 : Int) ≤ ((s4.1.length : Int))))) = true then chk (0 ≤ (0 : Int) ∧ (0 : Int) < (s4.1.length : Int)) (chk (0 ≤ (1 : Int) ∧ (1 : Int) < (s4.1.length : Int)) (chk (0 ≤ (2 : Int) ∧ (2 : Int) < (s4.1.length : Int)) (chk (0 ≤ (3 : Int) ∧ (3 : Int) < (s4.1.length : Int)) (chk (0 ≤ (bitsOf .and .u32 (bitsOf .xor .u32 s4.2 (bitsOf .or .u32 (bitsOf .or .u32 (bitsOf .or .u32 (IntKind.u32.wrap ((((s4.1).getD (0 : Int).toNat default).toNat : Int))) (shlI .u32 (IntKind.u32.wrap ((((s4.1).getD (1 : Int).toNat default).toNat : Int))) 8)) (shlI .u32 (IntKind.u32.wrap ((((s4.1).getD (2 : Int).toNat default).toNat : Int))) 16)) (shlI .u32 (IntKind.u32.wrap ((((s4.1).getD (3 : Int).toNat default).toNat : Int))) 24))) 255) ∧ (bitsOf .and .u32 (bitsOf .xor .u32 s4.2 (bitsOf .or .u32 (bitsOf .or .u32 (bitsOf .or .u32 (IntKind.u32.wrap ((((s4.1).getD (0 : Int).toNat default).toNat : Int))) (shlI .u32 (IntKind.u32.wrap ((((s4.1).getD (1 : Int).toNat default).toNat : Int))) 8)) (shlI .u32 (IntKind.u32.wrap ((((s4.1).getD (2 : Int).toNat default).toNat : Int))) 16)) (shlI .u32 (IntKind.u32.wrap ((((s4.1).getD (3 : Int).toNat default).toNat : Int))) 24))) 255) < 256) (chk (0 ≤ (bitsOf .and .u32 (shrI .u32 (bitsOf .xor .u32 s4.2 (bitsOf .or .u32 (bitsOf .or .u32 (bitsOf .or .u32 (IntKind.u32.wrap ((((s4.1).getD (0 : Int).toNat default).toNat : Int))) (shlI .u32 (IntKind.u32.wrap ((((s4.1).getD (1 : Int).toNat default).toNat : Int))) 8)) (shlI .u32 (IntKind.u32.wrap ((((s4.1).getD (2 : Int).toNat default).toNat : Int))) 16)) (shlI .u32 (IntKind.u32.wrap ((((s4.1).getD (3 : Int).toNat default).toNat : Int))) 24))) 8) 255) ∧ (bitsOf .and .u32 (shrI .u32 (bitsOf .xor .u32 s4.2 (bitsOf .or .u32 (bitsOf .or .u32 (bitsOf .or .u32 (IntKind.u32.wrap ((((s4.1).getD (0 : Int).toNat default).toNat : Int))) (shlI .u32 (IntKind.u32.wrap ((((s4.1).getD (1 : Int).toNat default).toNat : Int))) 8)) (shlI .u32 (IntKind.u32.wrap ((((s4.1).getD (2 : Int).toNat default).toNat : Int))) 16)) (shlI .u32 (IntKind.u32.wrap ((((s4.1).getD (3 : Int).toNat default).toNat : Int))) 24))) 8) 255) < 256) (chk (0 ≤ (bitsOf .and .u32 (shrI .u32 (bitsOf .xor .u32 s4.2 (bitsOf .or .u32 (bitsOf .or .u32 (bitsOf .or .u32 (IntKind.u32.wrap ((((s4.1).getD (0 : Int).toNat default).toNat : Int))) (shlI .u32 (IntKind.u32.wrap ((((s4.1).getD (1 : Int).toNat default).toNat : Int))) 8)) (shlI .u32 (IntKind.u32.wrap ((((s4.1).getD (2 : Int).toNat default).toNat : Int))) 16)) (shlI .u32 (IntKind.u32.wrap ((((s4.1).getD (3 : Int).toNat default).toNat : Int))) 24))) 16) 255) ∧ (bitsOf .and .u32 (shrI .u32 (bitsOf .xor .u32 s4.2 (bitsOf .or .u32 (bitsOf .or .u32 (bitsOf .or .u32 (IntKind.u32.wrap ((((s4.1).getD (0 : Int).toNat default).toNat : Int))) (shlI .u32 (IntKind.u32.wrap ((((s4.1).getD (1 : Int).toNat default).toNat : Int))) 8)) (shlI .u32 (IntKind.u32.wrap ((((s4.1).getD (2 : Int).toNat default).toNat : Int))) 16)) (shlI .u32 (IntKind.u32.wrap ((((s4.1).getD (3 : Int).toNat default).toNat : Int))) 24))) 16) 255) < 256) (chk (0 ≤ (shrI .u32 (bitsOf .xor .u32 s4.2 (bitsOf .or .u32 (bitsOf .or .u32 (bitsOf .or .u32 (IntKind.u32.wrap ((((s4.1).getD (0 : Int).toNat default).toNat : Int))) (shlI .u32 (IntKind.u32.wrap ((((s4.1).getD (1 : Int).toNat default).toNat : Int))) 8)) (shlI .u32 (IntKind.u32.wrap ((((s4.1).getD (2 : Int).toNat default).toNat : Int))) 16)) (shlI .u32 (IntKind.u32.wrap ((((s4.1).getD (3 : Int).toNat default).toNat : Int))) 24))) 24) ∧ (shrI .u32 (bitsOf .xor .u32 s4.2 (bitsOf .or .u32 (bitsOf .or .u32 (bitsOf .or .u32 (IntKind.u32.wrap ((((s4.1).getD (0 : Int).toNat default).toNat : Int))) (shlI .u32 (IntKind.u32.wrap ((((s4.1).getD (1 : Int).toNat default).toNat : Int))) 8)) (shlI .u32 (IntKind.u32.wrap ((((s4.1).getD (2 : Int).toNat default).toNat : Int))) 16)) (shlI .u32 (IntKind.u32.wrap ((((s4.1).getD (3 : Int).toNat default).toNat : Int))) 24))) 24) < 256) (chk (((0 + (3 : Int).toNat * 256) + (bitsOf .and .u32 (bitsOf .xor .u32 s4.2 (bitsOf .or .u32 (bitsOf .or .u32 (bitsOf .or .u32 (IntKind.u32.wrap ((((s4.1).getD (0 : Int).toNat default).toNat : Int))) (shlI .u32 (IntKind.u32.wrap ((((s4.1).getD (1 : Int).toNat default).toNat : Int))) 8)) (shlI .u32 (IntKind.u32.wrap ((((s4.1).getD (2 : Int).toNat default).toNat : Int))) 16)) (shlI .u32 (IntKind.u32.wrap ((((s4.1).getD (3 : Int).toNat default).toNat : Int))) 24))) 255 : Int).toNat * 1) < r1.length) (chk (((0 + (2 : Int).toNat * 256) + (bitsOf .and .u32 (shrI .u32 (bitsOf .xor .u32 s4.2 (bitsOf .or .u32 (bitsOf .or .u32 (bitsOf .or .u32 (IntKind.u32.wrap ((((s4.1).getD (0 : Int).toNat default).toNat : Int))) (shlI .u32 (IntKind.u32.wrap ((((s4.1).getD (1 : Int).toNat default).toNat : Int))) 8)) (shlI .u32 (IntKind.u32.wrap ((((s4.1).getD (2 : Int).toNat default).toNat : Int))) 16)) (shlI .u32 (IntKind.u32.wrap ((((s4.1).getD (3 : Int).toNat default).toNat : Int))) 24))) 8) 255 : Int).toNat * 1) < r1.length) (chk (((0 + (1 : Int).toNat * 256) + (bitsOf .and .u32 (shrI .u32 (bitsOf .xor .u32 s4.2 (bitsOf .or .u32 (bitsOf .or .u32 (bitsOf .or .u32 (IntKind.u32.wrap ((((s4.1).getD (0 : Int).toNat default).toNat : Int))) (shlI .u32 (IntKind.u32.wrap ((((s4.1).getD (1 : Int).toNat default).toNat : Int))) 8)) (shlI .u32 (IntKind.u32.wrap ((((s4.1).getD (2 : Int).toNat default).toNat : Int))) 16)) (shlI .u32 (IntKind.u32.wrap ((((s4.1).getD (3 : Int).toNat default).toNat : Int))) 24))) 16) 255 : Int).toNat * 1) < r1.length) (chk (((0 + (0 : Int).toNat * 256) + (shrI .u32 (bitsOf .xor .u32 s4.2 (bitsOf .or .u32 (bitsOf .or .u32 (bitsOf .or .u32 (IntKind.u32.wrap ((((s4.1).getD (0 : Int).toNat default).toNat : Int))) (shlI .u32 (IntKind.u32.wrap ((((s4.1).getD (1 : Int).toNat default).toNat : Int))) 8)) (shlI .u32 (IntKind.u32.wrap ((((s4.1).getD (2 : Int).toNat default).toNat : Int))) 16)) (shlI .u32 (IntKind.u32.wrap ((((s4.1).getD (3 : Int).toNat default).toNat : Int))) 24))) 24 : Int).toNat * 1) < r1.length) (chk (0 ≤ (4 : Int) ∧ (4 : Int) ≤ ((s4.1.length : Int)) ∧ ((s4.1.length : Int)) ≤ (s4.1.length : Int)) (some (.inl (subl s4.1 4 ((s4.1.length : Int)), bitsOf .xor .u32 (bitsOf .xor .u32 (bitsOf .xor .u32 (((r1).getD (((0 + (3 : Int).toNat * 256) + (bitsOf .and .u32 (bitsOf .xor .u32 s4.2 (bitsOf .or .u32 (bitsOf .or .u32 (bitsOf .or .u32 (IntKind.u32.wrap ((((s4.1).getD (0 : Int).toNat default).toNat : Int))) (shlI .u32 (IntKind.u32.wrap ((((s4.1).getD (1 : Int).toNat default).toNat : Int))) 8)) (shlI .u32 (IntKind.u32.wrap ((((s4.1).getD (2 : Int).toNat default).toNat : Int))) 16)) (shlI .u32 (IntKind.u32.wrap ((((s4.1).getD (3 : Int).toNat default).toNat : Int))) 24))) 255 : Int).toNat * 1)) default)) (((r1).getD (((0 + (2 : Int).toNat * 256) + (bitsOf .and .u32 (shrI .u32 (bitsOf .xor .u32 s4.2 (bitsOf .or .u32 (bitsOf .or .u32 (bitsOf .or .u32 (IntKind.u32.wrap ((((s4.1).getD (0 : Int).toNat default).toNat : Int))) (shlI .u32 (IntKind.u32.wrap ((((s4.1).getD (1 : Int).toNat default).toNat : Int))) 8)) (shlI .u32 (IntKind.u32.wrap ((((s4.1).getD (2 : Int).toNat default).toNat : Int))) 16)) (shlI .u32 (IntKind.u32.wrap ((((s4.1).getD (3 : Int).toNat default).toNat : Int))) 24))) 8) 255 : Int).toNat * 1)) default))) (((r1).getD (((0 + (1 : Int).toNat * 256) + (bitsOf .and .u32 (shrI .u32 (bitsOf .xor .u32 s4.2 (bitsOf .or .u32 (bitsOf .or .u32 (bitsOf .or .u32 (IntKind.u32.wrap ((((s4.1).getD (0 : Int).toNat default).toNat : Int))) (shlI .u32 (IntKind.u32.wrap ((((s4.1).getD (1 : Int).toNat default).toNat : Int))) 8)) (shlI .u32 (IntKind.u32.wrap ((((s4.1).getD (2 : Int).toNat default).toNat : Int))) 16)) (shlI .u32 (IntKind.u32.wrap ((((s4.1).getD (3 : Int).toNat default).toNat : Int))) 24))) 16) 255 : Int).toNat * 1)) default))) (((r1).getD (((0 + (0 : Int).toNat * 256) + (shrI .u32 (bitsOf .xor .u32 s4.2 (bitsOf .or .u32 (bitsOf .or .u32 (bitsOf .or .u32 (IntKind.u32.wrap ((((s4.1).getD (0 : Int).toNat default).toNat : Int))) (shlI .u32 (IntKind.u32.wrap ((((s4.1).getD (1 : Int).toNat default).toNat : Int))) 8)) (shlI .u32 (IntKind.u32.wrap ((((s4.1).getD (2 : Int).toNat default).toNat : Int))) 16)) (shlI .u32 (IntKind.u32.wrap ((((s4.1).getD (3 : Int).toNat default).toNat : Int))) 24))) 24 : Int).toNat * 1)) default))))))))))))))))) else some (.inr (s4.1, s4.2)))
noncomputable def wire_Sum.impl (l0 : List UInt8) : Option Int :=
  (wire_tables_fill.impl (List.replicate 1024 (0 : Int))).bind fun r1 => (loop (wire_Sum.st2 r1) (l0, 4294967295)).bind (fun e2 => wire_Sum.k1 r1 e2)
set_option maxRecDepth 100000 in
set_option maxHeartbeats 1000000 in
theorem wire_Sum.c {B : World} {hs : List MP} {w : World} {i0 c0 : Nat} {A0 : Option Addr} {l0 : List UInt8} (hS : St B (hs) w) (h0 : (hs)[i0]? = some (Ro E8 A0 c0 l0)) {r : Int} (hr : wire_Sum.impl l0 = some r) :
    Calls Try.prog 10 #[.slice A0 l0.length c0] w fun e w' => ∃ x : Unit, e = .returned (.int .u32 r) ∧ St B (hs) w' := by
  unfold wire_Sum.impl at hr
  refine calls_T Try.func10 rfl rfl rfl hS ?_
  refine T.front i0 h0 ?_
  refine T.seq ?_
  refine T.region ?_
  refine T.assign .list rfl (wants0 rfl) rfl rfl ?_
  refine T.nil ?_
  refine T.then_normal ?_
  refine T.seq ?_
  refine T.region ?_
  refine T.allocArr 1024 (Value.int .u32) 0 .list rfl (wants0 rfl) rfl (fun b1 => ?_)
  refine T.nil ?_
  refine T.then_normal ?_
  refine T.seq ?_
  refine T.region ?_
  refine T.pick [0, 1] 2 rfl rfl (Nat.le_add_left _ _) (hs' := Cl b1 44 ((List.replicate 1024 (0 : Int)).map (Value.int .u32)) :: Ro E8 A0 c0 l0 :: hs) rfl ?_
  obtain ⟨r1, hg1, hr⟩ := inv_bind hr
  refine T.call .list (wants0 rfl) rfl (run_callF (vs := [_]) rfl Try.func16 rfl (by decide) rfl) (fun w hS => wire_tables_fill.c hS  hg1) (fun x1 => ?_)
  refine T.nil ?_
  refine T.then_normal ?_
  refine T.seq ?_
  refine T.region ?_
  refine T.assign .list rfl (wants0 rfl) rfl rfl ?_
  refine T.nil ?_
  refine T.then_normal ?_
  refine T.seqJ (fun (s1 : List UInt8 × Int) (x2 : (Option Addr × Nat)) => [(0, .slice x2.1 s1.1.length x2.2), (3, .pointer (some ⟨b1, 0, none⟩)), (4, .int .u32 s1.2)]) (fun s1 x2 => Ro E8 x2.1 x2.2 s1.1 :: Cl b1 44 (r1.map (Value.int .u32)) :: hs) (fun s1 => wire_Sum.k1 r1 s1 = some r) (fun s1 x2 hk1 => ?_) (fun J1 => ?_)
  · unfold wire_Sum.k1 at hk1
    refine T.seqJ (fun (s2 : Int) (x3 : Unit) => [(4, .int .u32 s2)]) (fun s2 x3 => hs) (fun s2 => wire_Sum.k2 s2 = some r) (fun s2 x3 hk2 => ?_) (fun J2 => ?_)
    · unfold wire_Sum.k2 at hk2
      refine T.seq ?_
      refine T.region ?_
      refine T.move .list rfl (wants0 rfl) rfl rfl ?_
      refine T.compl .list rfl (wants0 rfl) rfl rfl ?_
      refine T.assign .list rfl (wants0 rfl) rfl rfl ?_
      refine T.nil ?_
      refine T.then_normal ?_
      refine T.ret ?_
      obtain rfl := inv_some hk2
      refine T.pick [] 0 rfl rfl (Nat.le_add_left _ _) rfl ?_
      refine T.ret1 rfl rfl (fun w hS => ⟨(), rfl, hS⟩)
    · refine T.seq ?_
      refine T.region ?_
      refine T.move .list rfl (wants0 rfl) rfl rfl ?_
      refine T.lenSlice .list rfl (wants0 rfl) rfl rfl ?_
      refine T.move .list rfl (wants0 rfl) rfl rfl ?_
      refine T.nil ?_
      refine T.then_normal ?_
      refine T.block ?_
      obtain ⟨e1, hl1, hk1⟩ := inv_bind hk1
      refine T.le (EnvLe.cons rfl (EnvLe.cons rfl (EnvLe.cons rfl (EnvLe.cons rfl (EnvLe.cons rfl EnvLe.nil))))) (T.pick [1, 0] 2 rfl rfl (Nat.le_add_left _ _) rfl (T.loop (s0 := (s1.2, 0)) (env := fun s3 x4 => [(3, .pointer (some ⟨b1, 0, none⟩)), (4, .int .u32 s3.1), (62, .slice x2.1 s1.1.length x2.2), (63, .int .i64 ((s1.1.length : Int))), (64, .int .i64 s3.2)]) (hs := fun (s3 : Int × Int) (x4 : Unit) => Cl b1 44 (r1.map (Value.int .u32)) :: Ro E8 x2.1 x2.2 s1.1 :: hs) hl1 () (fun K1 s3 x4 o1 he1 hm1 hx1 => ?_)))
      unfold wire_Sum.st1 at he1
      refine T.seq ?_
      refine T.region ?_
      refine T.bin .list rfl (wants0 rfl) rfl rfl rfl rfl ?_
      refine T.nil ?_
      refine T.then_normal ?_
      refine T.seq ?_
      refine T.cond rfl (fun hb1 => ?_) (fun hb1 => ?_)
      · replace he1 := inv_posB hb1 he1
        refine T.skip ?_
        refine T.then_normal ?_
        refine T.seq ?_
        refine T.block ?_
        refine T.seq ?_
        refine T.region ?_
        obtain ⟨hc1, he1⟩ := inv_chk he1
        refine T.idxRo .list 1 rfl rfl (wants0 rfl) rfl rfl rfl hc1.1 hc1.2 (Nat.le_refl _) ?_
        refine T.ldRo1 .list 1 rfl rfl (wants0 rfl) rfl rfl hc1.1 hc1.2 ?_
        refine T.assign .list rfl (wants0 rfl) rfl rfl ?_
        refine T.nil ?_
        refine T.then_normal ?_
        refine T.region ?_
        refine T.move .list rfl (wants0 rfl) rfl rfl ?_
        refine T.shr .list rfl (wants0 rfl) rfl rfl rfl (by decide) ?_
        refine T.move .list rfl (wants0 rfl) rfl rfl ?_
        refine T.conv .list rfl (wants0 rfl) rfl rfl rfl ?_
        refine T.move .list rfl (wants0 rfl) rfl rfl ?_
        refine T.bin .list rfl (wants0 rfl) rfl rfl rfl rfl ?_
        refine T.idxArr .list rfl (wants0 rfl) rfl rfl rfl (by decide) (by decide) ?_
        obtain ⟨hc2, he1⟩ := inv_chk he1
        refine T.idxArr .list rfl (wants0 rfl) rfl rfl rfl hc2.1 hc2.2 ?_
        obtain ⟨hc3, he1⟩ := inv_chk he1
        refine T.ldArr .list 0 rfl rfl (wants0 rfl) rfl rfl hc3 ?_
        refine T.bin .list rfl (wants0 rfl) rfl rfl rfl rfl ?_
        refine T.assign .list rfl (wants0 rfl) rfl rfl ?_
        refine T.nil ?_
        refine T.in_normal ?_
        refine T.then_normal ?_
        refine T.region ?_
        refine T.bin .list rfl (wants0 rfl) rfl rfl rfl rfl ?_
        refine T.move .list rfl (wants0 rfl) rfl rfl ?_
        refine T.nil ?_
        refine T.then_normal ?_
        obtain rfl := inv_some he1
        exact T.le (EnvLe.cons rfl (EnvLe.cons rfl (EnvLe.cons rfl (EnvLe.cons rfl (EnvLe.cons rfl EnvLe.nil))))) (T.pick [0, 1] 2 rfl rfl (Nat.le_add_left _ _) rfl (hm1 _ rfl ()))
      · replace he1 := inv_negB hb1 he1
        refine T.exit ?_
        refine T.then_exit ?_
        refine T.then_exit ?_
        obtain rfl := inv_some he1
        obtain rfl := hx1 _ rfl
        refine T.in_hit ?_
        refine T.then_normal ?_
        exact T.le (EnvLe.cons rfl EnvLe.nil) (T.pick [] 2 rfl rfl (Nat.le_add_left _ _) rfl (J2 s3.1 () hk1))
  · refine T.block ?_
    obtain ⟨e2, hl2, hr⟩ := inv_bind hr
    refine T.le (EnvLe.cons rfl (EnvLe.cons rfl (EnvLe.cons rfl EnvLe.nil))) (T.pick [1, 0] 2 rfl rfl (Nat.le_add_left _ _) rfl (T.loop (s0 := (l0, 4294967295)) (env := fun s4 x5 => [(0, .slice x5.1 s4.1.length x5.2), (3, .pointer (some ⟨b1, 0, none⟩)), (4, .int .u32 s4.2)]) (hs := fun (s4 : List UInt8 × Int) (x5 : (Option Addr × Nat)) => Ro E8 x5.1 x5.2 s4.1 :: Cl b1 44 (r1.map (Value.int .u32)) :: hs) hl2 (A0, c0) (fun K2 s4 x5 o2 he2 hm2 hx2 => ?_)))
    unfold wire_Sum.st2 at he2
    refine T.seq ?_
    refine T.seq ?_
    refine T.region ?_
    refine T.move .list rfl (wants0 rfl) rfl rfl ?_
    refine T.lenSlice .list rfl (wants0 rfl) rfl rfl ?_
    refine T.bin .list rfl (wants0 rfl) rfl rfl rfl rfl ?_
    refine T.nil ?_
    refine T.then_normal ?_
    refine T.cond rfl (fun hb2 => ?_) (fun hb2 => ?_)
    · replace he2 := inv_posB hb2 he2
      refine T.skip ?_
      refine T.then_normal ?_
      refine T.seq ?_
      refine T.block ?_
      refine T.seq ?_
      refine T.plan [(0, 0), (1, 0), (2, 0), (5, 0), (6, 0), (11, 0), (12, 0), (17, 0), (18, 0), (3, 1), (4, 0), (7, 1), (8, 0), (9, 0), (10, 0), (13, 1), (14, 0), (15, 0), (16, 0), (19, 1), (20, 0), (21, 0), (22, 0), (23, 0), (24, 0)] mixed (by kernel_rfl) (by kernel_rfl) rfl (fun d _ _ _ _ h => by cases d <;> exact h) ?_
      refine T.move (.plan rfl) rfl (wants0 rfl) rfl rfl ?_
      refine T.move (.plan rfl) rfl (wants0 rfl) rfl rfl ?_
      obtain ⟨hc4, he2⟩ := inv_chk he2
      refine T.idxRo (.plan rfl) 0 rfl rfl (wants0 rfl) rfl rfl rfl hc4.1 hc4.2 (Nat.le_refl _) ?_
      refine T.move (.plan rfl) rfl (wants0 rfl) rfl rfl ?_
      obtain ⟨hc5, he2⟩ := inv_chk he2
      refine T.idxRo (.plan rfl) 0 rfl rfl (wants0 rfl) rfl rfl rfl hc5.1 hc5.2 (Nat.le_refl _) ?_
      refine T.move (.plan rfl) rfl (wants0 rfl) rfl rfl ?_
      obtain ⟨hc6, he2⟩ := inv_chk he2
      refine T.idxRo (.plan rfl) 0 rfl rfl (wants0 rfl) rfl rfl rfl hc6.1 hc6.2 (Nat.le_refl _) ?_
      refine T.move (.plan rfl) rfl (wants0 rfl) rfl rfl ?_
      obtain ⟨hc7, he2⟩ := inv_chk he2
      refine T.idxRo (.plan rfl) 0 rfl rfl (wants0 rfl) rfl rfl rfl hc7.1 hc7.2 (Nat.le_refl _) ?_
      refine T.ldRo1 (.plan rfl) 0 rfl rfl (wants0 rfl) rfl rfl hc4.1 hc4.2 ?_
      refine T.conv (.plan rfl) rfl (wants0 rfl) rfl rfl rfl ?_
      refine T.ldRo1 (.plan rfl) 0 rfl rfl (wants0 rfl) rfl rfl hc5.1 hc5.2 ?_
      refine T.conv (.plan rfl) rfl (wants0 rfl) rfl rfl rfl ?_
      refine T.shl (.plan rfl) rfl (wants0 rfl) rfl rfl rfl (by decide) ?_
      refine T.bin (.plan rfl) rfl (wants0 rfl) rfl rfl rfl rfl ?_
      refine T.ldRo1 (.plan rfl) 0 rfl rfl (wants0 rfl) rfl rfl hc6.1 hc6.2 ?_
      refine T.conv (.plan rfl) rfl (wants0 rfl) rfl rfl rfl ?_
      refine T.shl (.plan rfl) rfl (wants0 rfl) rfl rfl rfl (by decide) ?_
      refine T.bin (.plan rfl) rfl (wants0 rfl) rfl rfl rfl rfl ?_
      refine T.ldRo1 (.plan rfl) 0 rfl rfl (wants0 rfl) rfl rfl hc7.1 hc7.2 ?_
      refine T.conv (.plan rfl) rfl (wants0 rfl) rfl rfl rfl ?_
      refine T.shl (.plan rfl) rfl (wants0 rfl) rfl rfl rfl (by decide) ?_
      refine T.bin (.plan rfl) rfl (wants0 rfl) rfl rfl rfl rfl ?_
      refine T.bin (.plan rfl) rfl (wants0 rfl) rfl rfl rfl rfl ?_
      refine T.assign (.plan rfl) rfl (wants0 rfl) rfl rfl ?_
      refine T.planEnd ?_
      refine T.then_normal ?_
      refine T.plan [(0, 0), (1, 0), (2, 0), (3, 0), (5, 0), (6, 0), (7, 0), (8, 0), (9, 0), (12, 0), (13, 0), (14, 0), (15, 0), (16, 0), (19, 0), (20, 0), (21, 0), (22, 0), (4, 1), (10, 1), (11, 0), (17, 1), (18, 0), (23, 1), (24, 0), (25, 0)] mixed (by kernel_rfl) (by kernel_rfl) rfl (fun d _ _ _ _ h => by cases d <;> exact h) ?_
      refine T.move (.plan rfl) rfl (wants0 rfl) rfl rfl ?_
      refine T.bin (.plan rfl) rfl (wants0 rfl) rfl rfl rfl rfl ?_
      refine T.idxArr (.plan rfl) rfl (wants0 rfl) rfl rfl rfl (by decide) (by decide) ?_
      obtain ⟨hc8, he2⟩ := inv_chk he2
      refine T.idxArr (.plan rfl) rfl (wants0 rfl) rfl rfl rfl hc8.1 hc8.2 ?_
      refine T.move (.plan rfl) rfl (wants0 rfl) rfl rfl ?_
      refine T.shr (.plan rfl) rfl (wants0 rfl) rfl rfl rfl (by decide) ?_
      refine T.bin (.plan rfl) rfl (wants0 rfl) rfl rfl rfl rfl ?_
      refine T.idxArr (.plan rfl) rfl (wants0 rfl) rfl rfl rfl (by decide) (by decide) ?_
      obtain ⟨hc9, he2⟩ := inv_chk he2
      refine T.idxArr (.plan rfl) rfl (wants0 rfl) rfl rfl rfl hc9.1 hc9.2 ?_
      refine T.move (.plan rfl) rfl (wants0 rfl) rfl rfl ?_
      refine T.shr (.plan rfl) rfl (wants0 rfl) rfl rfl rfl (by decide) ?_
      refine T.bin (.plan rfl) rfl (wants0 rfl) rfl rfl rfl rfl ?_
      refine T.idxArr (.plan rfl) rfl (wants0 rfl) rfl rfl rfl (by decide) (by decide) ?_
      obtain ⟨hc10, he2⟩ := inv_chk he2
      refine T.idxArr (.plan rfl) rfl (wants0 rfl) rfl rfl rfl hc10.1 hc10.2 ?_
      refine T.move (.plan rfl) rfl (wants0 rfl) rfl rfl ?_
      refine T.shr (.plan rfl) rfl (wants0 rfl) rfl rfl rfl (by decide) ?_
      refine T.idxArr (.plan rfl) rfl (wants0 rfl) rfl rfl rfl (by decide) (by decide) ?_
      obtain ⟨hc11, he2⟩ := inv_chk he2
      refine T.idxArr (.plan rfl) rfl (wants0 rfl) rfl rfl rfl hc11.1 hc11.2 ?_
      obtain ⟨hc12, he2⟩ := inv_chk he2
      refine T.ldArr (.plan rfl) 1 rfl rfl (wants0 rfl) rfl rfl hc12 ?_
      obtain ⟨hc13, he2⟩ := inv_chk he2
      refine T.ldArr (.plan rfl) 1 rfl rfl (wants0 rfl) rfl rfl hc13 ?_
      refine T.bin (.plan rfl) rfl (wants0 rfl) rfl rfl rfl rfl ?_
      obtain ⟨hc14, he2⟩ := inv_chk he2
      refine T.ldArr (.plan rfl) 1 rfl rfl (wants0 rfl) rfl rfl hc14 ?_
      refine T.bin (.plan rfl) rfl (wants0 rfl) rfl rfl rfl rfl ?_
      obtain ⟨hc15, he2⟩ := inv_chk he2
      refine T.ldArr (.plan rfl) 1 rfl rfl (wants0 rfl) rfl rfl hc15 ?_
      refine T.bin (.plan rfl) rfl (wants0 rfl) rfl rfl rfl rfl ?_
      refine T.assign (.plan rfl) rfl (wants0 rfl) rfl rfl ?_
      refine T.planEnd ?_
      refine T.in_normal ?_
      refine T.then_normal ?_
      refine T.region ?_
      refine T.move .list rfl (wants0 rfl) rfl rfl ?_
      obtain ⟨hc16, he2⟩ := inv_chk he2
      refine T.cut .list 0 rfl rfl rfl (wants0 rfl) rfl rfl (.inr ⟨_, _, rfl, rfl⟩) (.inl ⟨rfl, rfl⟩) hc16.1 hc16.2.1 hc16.2.2 ?_
      refine T.assign .list rfl (wants0 rfl) rfl rfl ?_
      refine T.nil ?_
      refine T.then_normal ?_
      obtain rfl := inv_some he2
      exact T.le (EnvLe.cons rfl (EnvLe.cons rfl (EnvLe.cons rfl EnvLe.nil))) (T.pick [0, 2] 3 rfl rfl (Nat.le_add_left _ _) rfl (hm2 _ rfl ((cutA x5.1 x5.2 (4 : Int) 1), (x5.2 - (4 : Int).toNat))))
    · replace he2 := inv_negB hb2 he2
      refine T.exit ?_
      refine T.then_exit ?_
      refine T.then_exit ?_
      obtain rfl := inv_some he2
      obtain rfl := hx2 _ rfl
      refine T.in_hit ?_
      refine T.then_normal ?_
      exact T.le (EnvLe.cons rfl (EnvLe.cons rfl (EnvLe.cons rfl EnvLe.nil))) (T.pick [0, 1] 2 rfl rfl (Nat.le_add_left _ _) rfl (J1 (s4.1, s4.2) (x5.1, x5.2) hr))

noncomputable def law1_roomy.impl (l0 : List UInt8) : Option (((List UInt8) × (List UInt8))) :=
  chk (((([] : List UInt8)).length + l0.length) * 1 ≤ 140737488355328) (chk (((((([] : List UInt8)) ++ l0)).length + (([(77 : UInt8), (78 : UInt8)] : List UInt8)).length) * 1 ≤ 140737488355328) (chk (0 ≤ ((l0.length : Int)) ∧ ((l0.length : Int)) ≤ ((((((([] : List UInt8)) ++ l0)) ++ (([(77 : UInt8), (78 : UInt8)] : List UInt8)))).length : Int)) (some (subl (((((([] : List UInt8)) ++ l0)) ++ (([(77 : UInt8), (78 : UInt8)] : List UInt8)))) 0 ((l0.length : Int)), ((((([] : List UInt8)) ++ l0)) ++ (([(77 : UInt8), (78 : UInt8)] : List UInt8)))))))
set_option maxRecDepth 100000 in
set_option maxHeartbeats 1000000 in
theorem law1_roomy.c {B : World} {hs : List MP} {w : World} {i0 c0 : Nat} {A0 : Option Addr} {l0 : List UInt8} (hS : St B (hs) w) (h0 : (hs)[i0]? = some (Ro E8 A0 c0 l0)) {r : ((List UInt8) × (List UInt8))} (hr : law1_roomy.impl l0 = some r) :
    Calls Try.prog 8 #[.slice A0 l0.length c0] w fun e w' => ∃ x : (Option Addr × Nat), e = .returned (.slice x.1 r.1.length x.2) ∧ St B (Ro E8 x.1 x.2 r.1 :: Ro E8 x.1 x.2 r.2 :: hs) w' := by
  unfold law1_roomy.impl at hr
  refine calls_T Try.func8 rfl rfl rfl hS ?_
  refine T.front i0 h0 ?_
  refine T.seq ?_
  refine T.region ?_
  refine T.assign .list rfl (wants0 rfl) rfl rfl ?_
  refine T.nil ?_
  refine T.then_normal ?_
  refine T.seq ?_
  refine T.region ?_
  refine T.move .list rfl (wants0 rfl) rfl rfl ?_
  refine T.lenSlice .list rfl (wants0 rfl) rfl rfl ?_
  refine T.assign .list rfl (wants0 rfl) rfl rfl ?_
  refine T.nil ?_
  refine T.then_normal ?_
  refine T.seq ?_
  refine T.region ?_
  refine T.assign .list rfl (wants0 rfl) rfl rfl ?_
  refine T.nil ?_
  refine T.then_normal ?_
  refine T.seq ?_
  refine T.region ?_
  refine T.move .list rfl (wants0 rfl) rfl rfl ?_
  refine T.move .list rfl (wants0 rfl) rfl rfl ?_
  refine T.nilBf E8 5 ?_
  obtain ⟨hc1, hr⟩ := inv_chk hr
  refine T.appRo .list 0 1 rfl rfl rfl rfl rfl (wants0 rfl) rfl rfl rfl rfl rfl rfl hc1 (fun _ _ => rfl) (fun A2 c2 => ?_)
  refine T.assign .list rfl (wants0 rfl) rfl rfl ?_
  refine T.nil ?_
  refine T.then_normal ?_
  refine T.seq ?_
  refine T.region ?_
  refine T.move .list rfl (wants0 rfl) rfl rfl ?_
  refine T.lit .list (vals := [(0, .int .u8 77), (1, .int .u8 78)]) (cells := #[.int .u8 77, .int .u8 78]) rfl (wants0 rfl) rfl rfl rfl rfl rfl (by kernel_rfl) ([(77 : UInt8), (78 : UInt8)] : List UInt8) rfl (fun _ _ _ _ _ => (Encs.c1 (enc := b8) (h1 := fun _ => rfl) rfl (Encs.c1 (enc := b8) (h1 := fun _ => rfl) rfl rfl))) (fun b1 => ?_)
  obtain ⟨hc2, hr⟩ := inv_chk hr
  refine T.appBf .list 1 0 rfl rfl rfl rfl rfl (wants0 rfl) rfl rfl rfl rfl rfl rfl hc2 (fun _ _ => rfl) (fun A3 c3 => ?_)
  refine T.move .list rfl (wants0 rfl) rfl rfl ?_
  refine T.freeze 1 rfl rfl rfl ?_
  obtain ⟨hc3, hr⟩ := inv_chk hr
  refine T.cut0 .list 1 rfl rfl rfl (wants0 rfl) rfl rfl (.inl rfl) (.inr ⟨_, _, rfl, rfl⟩) hc3.1 hc3.2 ?_
  refine T.assign .list rfl (wants0 rfl) rfl rfl ?_
  refine T.nil ?_
  refine T.then_normal ?_
  refine T.ret ?_
  obtain rfl := inv_some hr
  refine T.pick [0, 2] 4 rfl rfl (Nat.le_add_left _ _) rfl ?_
  refine T.ret1 rfl rfl (fun w hS => ⟨(A3, c3), rfl, hS⟩)

noncomputable def law1_told.impl  : Option Bool :=
  (wire_ReadUint.impl (([(9 : UInt8), (130 : UInt8), (44 : UInt8)] : List UInt8)) 1).bind fun r1 => (wire_ReadUint.impl (([(128 : UInt8), (1 : UInt8)] : List UInt8)) 0).bind fun r2 => (wire_ReadBytes.impl (([(2 : UInt8), (7 : UInt8), (8 : UInt8), (9 : UInt8)] : List UInt8)) 0 5).bind fun r3 => (if ((decide (r1.1 = 300))) = true then (if ((decide (r1.2.1 = 3))) = true then (if ((decide (r1.2.2 = 0))) = true then (if ((decide (r2.2.2 = 11))) = true then (if ((decide (r3.1 = ([7, 8] : List UInt8)))) = true then (if ((decide (r3.2.1 = 3))) = true then (if ((decide (r3.2.2 = 0))) = true then (wire_Sum.impl (([(104 : UInt8), (101 : UInt8), (97 : UInt8), (100 : UInt8), (108 : UInt8), (97 : UInt8), (110 : UInt8), (100 : UInt8)] : List UInt8))).bind fun r4 => some (decide (r4 = 1543401768)) else some false) else some false) else some false) else some false) else some false) else some false) else some false)
set_option maxRecDepth 100000 in
set_option maxHeartbeats 1000000 in
theorem law1_told.c {B : World} {hs : List MP} {w : World} (hS : St B (hs) w) {r : Bool} (hr : law1_told.impl  = some r) :
    Calls Try.prog 9 #[] w fun e w' => ∃ x : Unit, e = .returned (.bool r) ∧ St B (hs) w' := by
  unfold law1_told.impl at hr
  refine calls_T Try.func9 rfl rfl rfl hS ?_
  refine T.seq ?_
  refine T.region ?_
  refine T.assign .list rfl (wants0 rfl) rfl rfl ?_
  refine T.nil ?_
  refine T.then_normal ?_
  refine T.seq ?_
  refine T.region ?_
  refine T.lit .list (vals := [(0, .int .u8 9), (1, .int .u8 130), (2, .int .u8 44)]) (cells := #[.int .u8 9, .int .u8 130, .int .u8 44]) rfl (wants0 rfl) rfl rfl rfl rfl rfl (by kernel_rfl) ([(9 : UInt8), (130 : UInt8), (44 : UInt8)] : List UInt8) rfl (fun _ _ _ _ _ => (Encs.c1 (enc := b8) (h1 := fun _ => rfl) rfl (Encs.c1 (enc := b8) (h1 := fun _ => rfl) rfl (Encs.c1 (enc := b8) (h1 := fun _ => rfl) rfl rfl)))) (fun b1 => ?_)
  refine T.freeze 0 rfl rfl rfl ?_
  obtain ⟨r1, hg1, hr⟩ := inv_bind hr
  refine T.call .list (wants0 rfl) rfl (run_callF (vs := [_, _]) rfl Try.func12 rfl (by decide) rfl) (fun w hS => wire_ReadUint.c hS (i0 := 0) rfl hg1) (fun x1 => ?_)
  refine T.move .list rfl (wants0 rfl) rfl rfl ?_
  refine T.extract .list rfl (wants0 rfl) rfl rfl rfl ?_
  refine T.extract .list rfl (wants0 rfl) rfl rfl rfl ?_
  refine T.extract .list rfl (wants0 rfl) rfl rfl rfl ?_
  refine T.assign .list rfl (wants0 rfl) rfl rfl ?_
  refine T.assign .list rfl (wants0 rfl) rfl rfl ?_
  refine T.assign .list rfl (wants0 rfl) rfl rfl ?_
  refine T.nil ?_
  refine T.then_normal ?_
  refine T.seq ?_
  refine T.region ?_
  refine T.lit .list (vals := [(0, .int .u8 128), (1, .int .u8 1)]) (cells := #[.int .u8 128, .int .u8 1]) rfl (wants0 rfl) rfl rfl rfl rfl rfl (by kernel_rfl) ([(128 : UInt8), (1 : UInt8)] : List UInt8) rfl (fun _ _ _ _ _ => (Encs.c1 (enc := b8) (h1 := fun _ => rfl) rfl (Encs.c1 (enc := b8) (h1 := fun _ => rfl) rfl rfl))) (fun b2 => ?_)
  refine T.freeze 0 rfl rfl rfl ?_
  obtain ⟨r2, hg2, hr⟩ := inv_bind hr
  refine T.call .list (wants0 rfl) rfl (run_callF (vs := [_, _]) rfl Try.func12 rfl (by decide) rfl) (fun w hS => wire_ReadUint.c hS (i0 := 0) rfl hg2) (fun x2 => ?_)
  refine T.move .list rfl (wants0 rfl) rfl rfl ?_
  refine T.extract .list rfl (wants0 rfl) rfl rfl rfl ?_
  refine T.extract .list rfl (wants0 rfl) rfl rfl rfl ?_
  refine T.extract .list rfl (wants0 rfl) rfl rfl rfl ?_
  refine T.assign .list rfl (wants0 rfl) rfl rfl ?_
  refine T.assign .list rfl (wants0 rfl) rfl rfl ?_
  refine T.assign .list rfl (wants0 rfl) rfl rfl ?_
  refine T.nil ?_
  refine T.then_normal ?_
  refine T.seq ?_
  refine T.region ?_
  refine T.lit .list (vals := [(0, .int .u8 2), (1, .int .u8 7), (2, .int .u8 8), (3, .int .u8 9)]) (cells := #[.int .u8 2, .int .u8 7, .int .u8 8, .int .u8 9]) rfl (wants0 rfl) rfl rfl rfl rfl rfl (by kernel_rfl) ([(2 : UInt8), (7 : UInt8), (8 : UInt8), (9 : UInt8)] : List UInt8) rfl (fun _ _ _ _ _ => (Encs.c1 (enc := b8) (h1 := fun _ => rfl) rfl (Encs.c1 (enc := b8) (h1 := fun _ => rfl) rfl (Encs.c1 (enc := b8) (h1 := fun _ => rfl) rfl (Encs.c1 (enc := b8) (h1 := fun _ => rfl) rfl rfl))))) (fun b3 => ?_)
  refine T.freeze 0 rfl rfl rfl ?_
  obtain ⟨r3, hg3, hr⟩ := inv_bind hr
  refine T.call .list (wants0 rfl) rfl (run_callF (vs := [_, _, _]) rfl Try.func15 rfl (by decide) rfl) (fun w hS => wire_ReadBytes.c hS (i0 := 0) rfl hg3) (fun x3 => ?_)
  refine T.move .list rfl (wants0 rfl) rfl rfl ?_
  refine T.extract .list rfl (wants0 rfl) rfl rfl rfl ?_
  refine T.extract .list rfl (wants0 rfl) rfl rfl rfl ?_
  refine T.extract .list rfl (wants0 rfl) rfl rfl rfl ?_
  refine T.assign .list rfl (wants0 rfl) rfl rfl ?_
  refine T.assign .list rfl (wants0 rfl) rfl rfl ?_
  refine T.assign .list rfl (wants0 rfl) rfl rfl ?_
  refine T.nil ?_
  refine T.then_normal ?_
  refine T.seq ?_
  refine T.region ?_
  refine T.move .list rfl (wants0 rfl) rfl rfl ?_
  refine T.bin .list rfl (wants0 rfl) rfl rfl rfl rfl ?_
  refine T.move .list rfl (wants0 rfl) rfl rfl ?_
  refine T.bool (b := (decide (r1.1 = 300))) (fun hb1 => ?_) (fun hb1 => ?_)
  · replace hr := inv_posB hb1 hr
    refine T.move .list rfl (wants1 rfl rfl rfl hb1) rfl rfl ?_
    refine T.bin .list rfl (wants1 rfl rfl rfl hb1) rfl rfl rfl rfl ?_
    refine T.pickT .list rfl (wants0 rfl) rfl rfl hb1 rfl ?_
    refine T.move .list rfl (wants0 rfl) rfl rfl ?_
    refine T.bool (b := (decide (r1.2.1 = 3))) (fun hb2 => ?_) (fun hb2 => ?_)
    · replace hr := inv_posB hb2 hr
      refine T.move .list rfl (wants1 rfl rfl rfl hb2) rfl rfl ?_
      refine T.bin .list rfl (wants1 rfl rfl rfl hb2) rfl rfl rfl rfl ?_
      refine T.pickT .list rfl (wants0 rfl) rfl rfl hb2 rfl ?_
      refine T.move .list rfl (wants0 rfl) rfl rfl ?_
      refine T.bool (b := (decide (r1.2.2 = 0))) (fun hb3 => ?_) (fun hb3 => ?_)
      · replace hr := inv_posB hb3 hr
        refine T.move .list rfl (wants1 rfl rfl rfl hb3) rfl rfl ?_
        refine T.bin .list rfl (wants1 rfl rfl rfl hb3) rfl rfl rfl rfl ?_
        refine T.pickT .list rfl (wants0 rfl) rfl rfl hb3 rfl ?_
        refine T.move .list rfl (wants0 rfl) rfl rfl ?_
        refine T.bool (b := (decide (r2.2.2 = 11))) (fun hb4 => ?_) (fun hb4 => ?_)
        · replace hr := inv_posB hb4 hr
          refine T.move .list rfl (wants1 rfl rfl rfl hb4) rfl rfl ?_
          refine T.strBf .list 0 rfl rfl (wants1 rfl rfl rfl hb4) rfl rfl rfl ?_
          refine T.strEq .list rfl (wants1 rfl rfl rfl hb4) rfl (l := r3.1) (l' := ([7, 8])) rfl rfl ?_
          refine T.pickT .list rfl (wants0 rfl) rfl rfl hb4 rfl ?_
          refine T.move .list rfl (wants0 rfl) rfl rfl ?_
          refine T.bool (b := (decide (r3.1 = ([7, 8] : List UInt8)))) (fun hb5 => ?_) (fun hb5 => ?_)
          · replace hr := inv_posB hb5 hr
            refine T.move .list rfl (wants1 rfl rfl rfl hb5) rfl rfl ?_
            refine T.bin .list rfl (wants1 rfl rfl rfl hb5) rfl rfl rfl rfl ?_
            refine T.pickT .list rfl (wants0 rfl) rfl rfl hb5 rfl ?_
            refine T.move .list rfl (wants0 rfl) rfl rfl ?_
            refine T.bool (b := (decide (r3.2.1 = 3))) (fun hb6 => ?_) (fun hb6 => ?_)
            · replace hr := inv_posB hb6 hr
              refine T.move .list rfl (wants1 rfl rfl rfl hb6) rfl rfl ?_
              refine T.bin .list rfl (wants1 rfl rfl rfl hb6) rfl rfl rfl rfl ?_
              refine T.pickT .list rfl (wants0 rfl) rfl rfl hb6 rfl ?_
              refine T.move .list rfl (wants0 rfl) rfl rfl ?_
              refine T.bool (b := (decide (r3.2.2 = 0))) (fun hb7 => ?_) (fun hb7 => ?_)
              · replace hr := inv_posB hb7 hr
                refine T.lit .list (vals := [(0, .int .u8 104), (1, .int .u8 101), (2, .int .u8 97), (3, .int .u8 100), (4, .int .u8 108), (5, .int .u8 97), (6, .int .u8 110), (7, .int .u8 100)]) (cells := #[.int .u8 104, .int .u8 101, .int .u8 97, .int .u8 100, .int .u8 108, .int .u8 97, .int .u8 110, .int .u8 100]) rfl (wants1 rfl rfl rfl hb7) rfl rfl rfl rfl rfl (by kernel_rfl) ([(104 : UInt8), (101 : UInt8), (97 : UInt8), (100 : UInt8), (108 : UInt8), (97 : UInt8), (110 : UInt8), (100 : UInt8)] : List UInt8) rfl (fun _ _ _ _ _ => (Encs.c1 (enc := b8) (h1 := fun _ => rfl) rfl (Encs.c1 (enc := b8) (h1 := fun _ => rfl) rfl (Encs.c1 (enc := b8) (h1 := fun _ => rfl) rfl (Encs.c1 (enc := b8) (h1 := fun _ => rfl) rfl (Encs.c1 (enc := b8) (h1 := fun _ => rfl) rfl (Encs.c1 (enc := b8) (h1 := fun _ => rfl) rfl (Encs.c1 (enc := b8) (h1 := fun _ => rfl) rfl (Encs.c1 (enc := b8) (h1 := fun _ => rfl) rfl rfl))))))))) (fun b4 => ?_)
                refine T.stringish .list 0 rfl rfl (wants1 rfl rfl rfl hb7) rfl rfl rfl ?_
                obtain ⟨r4, hg4, hr⟩ := inv_bind hr
                refine T.call .list (wants1 rfl rfl rfl hb7) rfl (run_callF (vs := [_]) rfl Try.func10 rfl (by decide) rfl) (fun w hS => wire_Sum.c hS (i0 := 0) rfl hg4) (fun x4 => ?_)
                refine T.bin .list rfl (wants1 rfl rfl rfl hb7) rfl rfl rfl rfl ?_
                refine T.pickT .list rfl (wants0 rfl) rfl rfl hb7 rfl ?_
                refine T.assign .list rfl (wants0 rfl) rfl rfl ?_
                refine T.nil ?_
                refine T.then_normal ?_
                refine T.ret ?_
                obtain rfl := inv_some hr
                refine T.pick [] 5 rfl rfl (Nat.le_add_left _ _) rfl ?_
                refine T.ret1 rfl rfl (fun w hS => ⟨(), rfl, hS⟩)
              · replace hr := inv_negB hb7 hr
                refine T.leave .list (wantsNot rfl rfl rfl hb7) rfl ?_
                refine T.leave .list (wantsNot rfl rfl rfl hb7) rfl ?_
                refine T.leave .list (wantsNot rfl rfl rfl hb7) rfl ?_
                refine T.leave .list (wantsNot rfl rfl rfl hb7) rfl ?_
                refine T.pickF .list rfl (wants0 rfl) rfl rfl hb7 rfl ?_
                refine T.assign .list rfl (wants0 rfl) rfl rfl ?_
                refine T.nil ?_
                refine T.then_normal ?_
                refine T.ret ?_
                obtain rfl := inv_some hr
                refine T.pick [] 4 rfl rfl (Nat.le_add_left _ _) rfl ?_
                refine T.ret1 rfl rfl (fun w hS => ⟨(), rfl, hS⟩)
            · replace hr := inv_negB hb6 hr
              refine T.leave .list (wantsNot rfl rfl rfl hb6) rfl ?_
              refine T.leave .list (wantsNot rfl rfl rfl hb6) rfl ?_
              refine T.pickF .list rfl (wants0 rfl) rfl rfl hb6 rfl ?_
              refine T.move .list rfl (wants0 rfl) rfl rfl ?_
              refine T.leave .list (wantsNot rfl rfl rfl rfl) rfl ?_
              refine T.leave .list (wantsNot rfl rfl rfl rfl) rfl ?_
              refine T.leave .list (wantsNot rfl rfl rfl rfl) rfl ?_
              refine T.leave .list (wantsNot rfl rfl rfl rfl) rfl ?_
              refine T.pickF .list rfl (wants0 rfl) rfl rfl rfl rfl ?_
              refine T.assign .list rfl (wants0 rfl) rfl rfl ?_
              refine T.nil ?_
              refine T.then_normal ?_
              refine T.ret ?_
              obtain rfl := inv_some hr
              refine T.pick [] 4 rfl rfl (Nat.le_add_left _ _) rfl ?_
              refine T.ret1 rfl rfl (fun w hS => ⟨(), rfl, hS⟩)
          · replace hr := inv_negB hb5 hr
            refine T.leave .list (wantsNot rfl rfl rfl hb5) rfl ?_
            refine T.leave .list (wantsNot rfl rfl rfl hb5) rfl ?_
            refine T.pickF .list rfl (wants0 rfl) rfl rfl hb5 rfl ?_
            refine T.move .list rfl (wants0 rfl) rfl rfl ?_
            refine T.leave .list (wantsNot rfl rfl rfl rfl) rfl ?_
            refine T.leave .list (wantsNot rfl rfl rfl rfl) rfl ?_
            refine T.pickF .list rfl (wants0 rfl) rfl rfl rfl rfl ?_
            refine T.move .list rfl (wants0 rfl) rfl rfl ?_
            refine T.leave .list (wantsNot rfl rfl rfl rfl) rfl ?_
            refine T.leave .list (wantsNot rfl rfl rfl rfl) rfl ?_
            refine T.leave .list (wantsNot rfl rfl rfl rfl) rfl ?_
            refine T.leave .list (wantsNot rfl rfl rfl rfl) rfl ?_
            refine T.pickF .list rfl (wants0 rfl) rfl rfl rfl rfl ?_
            refine T.assign .list rfl (wants0 rfl) rfl rfl ?_
            refine T.nil ?_
            refine T.then_normal ?_
            refine T.ret ?_
            obtain rfl := inv_some hr
            refine T.pick [] 4 rfl rfl (Nat.le_add_left _ _) rfl ?_
            refine T.ret1 rfl rfl (fun w hS => ⟨(), rfl, hS⟩)
        · replace hr := inv_negB hb4 hr
          refine T.leave .list (wantsNot rfl rfl rfl hb4) rfl ?_
          refine T.leave .list (wantsNot rfl rfl rfl hb4) rfl ?_
          refine T.leave .list (wantsNot rfl rfl rfl hb4) rfl ?_
          refine T.pickF .list rfl (wants0 rfl) rfl rfl hb4 rfl ?_
          refine T.move .list rfl (wants0 rfl) rfl rfl ?_
          refine T.leave .list (wantsNot rfl rfl rfl rfl) rfl ?_
          refine T.leave .list (wantsNot rfl rfl rfl rfl) rfl ?_
          refine T.pickF .list rfl (wants0 rfl) rfl rfl rfl rfl ?_
          refine T.move .list rfl (wants0 rfl) rfl rfl ?_
          refine T.leave .list (wantsNot rfl rfl rfl rfl) rfl ?_
          refine T.leave .list (wantsNot rfl rfl rfl rfl) rfl ?_
          refine T.pickF .list rfl (wants0 rfl) rfl rfl rfl rfl ?_
          refine T.move .list rfl (wants0 rfl) rfl rfl ?_
          refine T.leave .list (wantsNot rfl rfl rfl rfl) rfl ?_
          refine T.leave .list (wantsNot rfl rfl rfl rfl) rfl ?_
          refine T.leave .list (wantsNot rfl rfl rfl rfl) rfl ?_
          refine T.leave .list (wantsNot rfl rfl rfl rfl) rfl ?_
          refine T.pickF .list rfl (wants0 rfl) rfl rfl rfl rfl ?_
          refine T.assign .list rfl (wants0 rfl) rfl rfl ?_
          refine T.nil ?_
          refine T.then_normal ?_
          refine T.ret ?_
          obtain rfl := inv_some hr
          refine T.pick [] 4 rfl rfl (Nat.le_add_left _ _) rfl ?_
          refine T.ret1 rfl rfl (fun w hS => ⟨(), rfl, hS⟩)
      · replace hr := inv_negB hb3 hr
        refine T.leave .list (wantsNot rfl rfl rfl hb3) rfl ?_
        refine T.leave .list (wantsNot rfl rfl rfl hb3) rfl ?_
        refine T.pickF .list rfl (wants0 rfl) rfl rfl hb3 rfl ?_
        refine T.move .list rfl (wants0 rfl) rfl rfl ?_
        refine T.leave .list (wantsNot rfl rfl rfl rfl) rfl ?_
        refine T.leave .list (wantsNot rfl rfl rfl rfl) rfl ?_
        refine T.leave .list (wantsNot rfl rfl rfl rfl) rfl ?_
        refine T.pickF .list rfl (wants0 rfl) rfl rfl rfl rfl ?_
        refine T.move .list rfl (wants0 rfl) rfl rfl ?_
        refine T.leave .list (wantsNot rfl rfl rfl rfl) rfl ?_
        refine T.leave .list (wantsNot rfl rfl rfl rfl) rfl ?_
        refine T.pickF .list rfl (wants0 rfl) rfl rfl rfl rfl ?_
        refine T.move .list rfl (wants0 rfl) rfl rfl ?_
        refine T.leave .list (wantsNot rfl rfl rfl rfl) rfl ?_
        refine T.leave .list (wantsNot rfl rfl rfl rfl) rfl ?_
        refine T.pickF .list rfl (wants0 rfl) rfl rfl rfl rfl ?_
        refine T.move .list rfl (wants0 rfl) rfl rfl ?_
        refine T.leave .list (wantsNot rfl rfl rfl rfl) rfl ?_
        refine T.leave .list (wantsNot rfl rfl rfl rfl) rfl ?_
        refine T.leave .list (wantsNot rfl rfl rfl rfl) rfl ?_
        refine T.leave .list (wantsNot rfl rfl rfl rfl) rfl ?_
        refine T.pickF .list rfl (wants0 rfl) rfl rfl rfl rfl ?_
        refine T.assign .list rfl (wants0 rfl) rfl rfl ?_
        refine T.nil ?_
        refine T.then_normal ?_
        refine T.ret ?_
        obtain rfl := inv_some hr
        refine T.pick [] 4 rfl rfl (Nat.le_add_left _ _) rfl ?_
        refine T.ret1 rfl rfl (fun w hS => ⟨(), rfl, hS⟩)
    · replace hr := inv_negB hb2 hr
      refine T.leave .list (wantsNot rfl rfl rfl hb2) rfl ?_
      refine T.leave .list (wantsNot rfl rfl rfl hb2) rfl ?_
      refine T.pickF .list rfl (wants0 rfl) rfl rfl hb2 rfl ?_
      refine T.move .list rfl (wants0 rfl) rfl rfl ?_
      refine T.leave .list (wantsNot rfl rfl rfl rfl) rfl ?_
      refine T.leave .list (wantsNot rfl rfl rfl rfl) rfl ?_
      refine T.pickF .list rfl (wants0 rfl) rfl rfl rfl rfl ?_
      refine T.move .list rfl (wants0 rfl) rfl rfl ?_
      refine T.leave .list (wantsNot rfl rfl rfl rfl) rfl ?_
      refine T.leave .list (wantsNot rfl rfl rfl rfl) rfl ?_
      refine T.leave .list (wantsNot rfl rfl rfl rfl) rfl ?_
      refine T.pickF .list rfl (wants0 rfl) rfl rfl rfl rfl ?_
      refine T.move .list rfl (wants0 rfl) rfl rfl ?_
      refine T.leave .list (wantsNot rfl rfl rfl rfl) rfl ?_
      refine T.leave .list (wantsNot rfl rfl rfl rfl) rfl ?_
      refine T.pickF .list rfl (wants0 rfl) rfl rfl rfl rfl ?_
      refine T.move .list rfl (wants0 rfl) rfl rfl ?_
      refine T.leave .list (wantsNot rfl rfl rfl rfl) rfl ?_
      refine T.leave .list (wantsNot rfl rfl rfl rfl) rfl ?_
      refine T.pickF .list rfl (wants0 rfl) rfl rfl rfl rfl ?_
      refine T.move .list rfl (wants0 rfl) rfl rfl ?_
      refine T.leave .list (wantsNot rfl rfl rfl rfl) rfl ?_
      refine T.leave .list (wantsNot rfl rfl rfl rfl) rfl ?_
      refine T.leave .list (wantsNot rfl rfl rfl rfl) rfl ?_
      refine T.leave .list (wantsNot rfl rfl rfl rfl) rfl ?_
      refine T.pickF .list rfl (wants0 rfl) rfl rfl rfl rfl ?_
      refine T.assign .list rfl (wants0 rfl) rfl rfl ?_
      refine T.nil ?_
      refine T.then_normal ?_
      refine T.ret ?_
      obtain rfl := inv_some hr
      refine T.pick [] 4 rfl rfl (Nat.le_add_left _ _) rfl ?_
      refine T.ret1 rfl rfl (fun w hS => ⟨(), rfl, hS⟩)
  · replace hr := inv_negB hb1 hr
    refine T.leave .list (wantsNot rfl rfl rfl hb1) rfl ?_
    refine T.leave .list (wantsNot rfl rfl rfl hb1) rfl ?_
    refine T.pickF .list rfl (wants0 rfl) rfl rfl hb1 rfl ?_
    refine T.move .list rfl (wants0 rfl) rfl rfl ?_
    refine T.leave .list (wantsNot rfl rfl rfl rfl) rfl ?_
    refine T.leave .list (wantsNot rfl rfl rfl rfl) rfl ?_
    refine T.pickF .list rfl (wants0 rfl) rfl rfl rfl rfl ?_
    refine T.move .list rfl (wants0 rfl) rfl rfl ?_
    refine T.leave .list (wantsNot rfl rfl rfl rfl) rfl ?_
    refine T.leave .list (wantsNot rfl rfl rfl rfl) rfl ?_
    refine T.pickF .list rfl (wants0 rfl) rfl rfl rfl rfl ?_
    refine T.move .list rfl (wants0 rfl) rfl rfl ?_
    refine T.leave .list (wantsNot rfl rfl rfl rfl) rfl ?_
    refine T.leave .list (wantsNot rfl rfl rfl rfl) rfl ?_
    refine T.leave .list (wantsNot rfl rfl rfl rfl) rfl ?_
    refine T.pickF .list rfl (wants0 rfl) rfl rfl rfl rfl ?_
    refine T.move .list rfl (wants0 rfl) rfl rfl ?_
    refine T.leave .list (wantsNot rfl rfl rfl rfl) rfl ?_
    refine T.leave .list (wantsNot rfl rfl rfl rfl) rfl ?_
    refine T.pickF .list rfl (wants0 rfl) rfl rfl rfl rfl ?_
    refine T.move .list rfl (wants0 rfl) rfl rfl ?_
    refine T.leave .list (wantsNot rfl rfl rfl rfl) rfl ?_
    refine T.leave .list (wantsNot rfl rfl rfl rfl) rfl ?_
    refine T.pickF .list rfl (wants0 rfl) rfl rfl rfl rfl ?_
    refine T.move .list rfl (wants0 rfl) rfl rfl ?_
    refine T.leave .list (wantsNot rfl rfl rfl rfl) rfl ?_
    refine T.leave .list (wantsNot rfl rfl rfl rfl) rfl ?_
    refine T.leave .list (wantsNot rfl rfl rfl rfl) rfl ?_
    refine T.leave .list (wantsNot rfl rfl rfl rfl) rfl ?_
    refine T.pickF .list rfl (wants0 rfl) rfl rfl rfl rfl ?_
    refine T.assign .list rfl (wants0 rfl) rfl rfl ?_
    refine T.nil ?_
    refine T.then_normal ?_
    refine T.ret ?_
    obtain rfl := inv_some hr
    refine T.pick [] 4 rfl rfl (Nat.le_add_left _ _) rfl ?_
    refine T.ret1 rfl rfl (fun w hS => ⟨(), rfl, hS⟩)
end Go.Proofs.Ythhgagkacogigaa
