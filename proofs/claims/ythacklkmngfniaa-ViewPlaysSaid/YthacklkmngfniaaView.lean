/- View: what the functions compute, and that the program computes it; printed by a program of ours. -/
import Derived.Test.YthacklkmngfniaaDraft
import Derived.Test.YthacklkmngfniaaBound
set_option linter.unusedVariables false
set_option linter.unusedSimpArgs false
namespace Go.Proofs.Ythacklkmngfniaa
open Go.RowKit
noncomputable def view_notes_number.k1 (r1 : List UInt8 × Bool × Int) (s1 : Bool) : Option (Int × Bool × Int) :=
  (if s1 = true then some (0, false, r1.2.2) else (wire_ReadUint.impl r1.1 0).bind fun r2 => (if ((!(decide (r2.2.2 = 0)))) = true then some (0, false, 22) else some (r2.1, true, 0)))
noncomputable def view_notes_number.impl (o0s0a : Int × Int × Int × Int × Int × Int × Int × Int × Int × Int × Int × Int × Int × Int × Int × Int × Int) (o0s0aa : Int × Int × Int × Int) (o0s0aaa : Int × Int × Int × Int) (q0s0aaab : List (Int × Int)) (o0s0aaac : Int × Bool × Int × Int × Int × Int × Int) (q0s0aaacb : List (Int × (List UInt8))) (q0s0aaacc : List (Int × (List UInt8))) (q0s0aah : List (Int × Int)) (q0s0aak : List (Int × Int)) (q0s0b : List ((Int × (List UInt8) × (List UInt8)) × Bool)) (a1 : Int) (a2 : Int) : Option (Int × Bool × Int) :=
  chk (0 ≤ a2 ∧ a2 < 256) ((draft_Draft_Get.impl ((o0s0a.1, o0s0a.2.1, o0s0a.2.2.1, o0s0a.2.2.2.1, o0s0a.2.2.2.2.1, o0s0a.2.2.2.2.2.1, o0s0a.2.2.2.2.2.2.1, o0s0a.2.2.2.2.2.2.2.1, o0s0a.2.2.2.2.2.2.2.2.1, o0s0a.2.2.2.2.2.2.2.2.2.1, o0s0a.2.2.2.2.2.2.2.2.2.2.1, o0s0a.2.2.2.2.2.2.2.2.2.2.2.1, o0s0a.2.2.2.2.2.2.2.2.2.2.2.2.1, o0s0a.2.2.2.2.2.2.2.2.2.2.2.2.2.1, o0s0a.2.2.2.2.2.2.2.2.2.2.2.2.2.2.1, o0s0a.2.2.2.2.2.2.2.2.2.2.2.2.2.2.2.1, o0s0a.2.2.2.2.2.2.2.2.2.2.2.2.2.2.2.2)) ((o0s0aa.1, o0s0aa.2.1, o0s0aa.2.2.1, o0s0aa.2.2.2)) ((o0s0aaa.1, o0s0aaa.2.1, o0s0aaa.2.2.1, o0s0aaa.2.2.2)) q0s0aaab ((o0s0aaac.1, o0s0aaac.2.1, o0s0aaac.2.2.1, o0s0aaac.2.2.2.1, o0s0aaac.2.2.2.2.1, o0s0aaac.2.2.2.2.2.1, o0s0aaac.2.2.2.2.2.2)) q0s0aaacb q0s0aaacc q0s0aah q0s0aak q0s0b a1 (([(u8 (a2))] : List UInt8))).bind fun r1 => (if ((decide (r1.2.2 = 0))) = true then view_notes_number.k1 r1 (!r1.2.1) else view_notes_number.k1 r1 true))
set_option maxRecDepth 100000 in
set_option maxHeartbeats 4000000 in
theorem view_notes_number.c {B : World} {hs : List MP} {w : World} {p0s0 : Nat} {p0s0a : Nat} {o0s0a : Int × Int × Int × Int × Int × Int × Int × Int × Int × Int × Int × Int × Int × Int × Int × Int × Int} {p0s0aa : Nat} {o0s0aa : Int × Int × Int × Int} {p0s0aaa : Nat} {o0s0aaa : Int × Int × Int × Int} {m0s0aaab : Nat} {q0s0aaab : List (Int × Int)} {p0s0aaac : Nat} {o0s0aaac : Int × Bool × Int × Int × Int × Int × Int} {m0s0aaacb : Nat} {q0s0aaacb : List (Int × (List UInt8))} {c0s0aaacc : Nat} {A0s0aaacc : Option Addr} {q0s0aaacc : List (Int × (List UInt8))} {m0s0aah : Nat} {q0s0aah : List (Int × Int)} {m0s0aak : Nat} {q0s0aak : List (Int × Int)} {c0s0b : Nat} {A0s0b : Option Addr} {q0s0b : List ((Int × (List UInt8) × (List UInt8)) × Bool)} {a1 : Int} {a2 : Int} (hS : St B (Cl p0s0 99 [.pointer (some ⟨p0s0a, 0, none⟩), .slice A0s0b q0s0b.length c0s0b] :: Cl p0s0a 89 [.pointer (some ⟨p0s0aa, 0, none⟩), .int .i64 o0s0a.1, .int .i64 o0s0a.2.1, .int .i64 o0s0a.2.2.1, .int .i64 o0s0a.2.2.2.1, .int .i64 o0s0a.2.2.2.2.1, .int .i64 o0s0a.2.2.2.2.2.1, .int .i64 o0s0a.2.2.2.2.2.2.1, .int .i64 o0s0a.2.2.2.2.2.2.2.1, .int .i64 o0s0a.2.2.2.2.2.2.2.2.1, .int .i64 o0s0a.2.2.2.2.2.2.2.2.2.1, .int .i64 o0s0a.2.2.2.2.2.2.2.2.2.2.1, .int .i64 o0s0a.2.2.2.2.2.2.2.2.2.2.2.1, .int .i64 o0s0a.2.2.2.2.2.2.2.2.2.2.2.2.1, .int .i64 o0s0a.2.2.2.2.2.2.2.2.2.2.2.2.2.1, .int .i64 o0s0a.2.2.2.2.2.2.2.2.2.2.2.2.2.2.1, .int .i64 o0s0a.2.2.2.2.2.2.2.2.2.2.2.2.2.2.2.1, .int .i64 o0s0a.2.2.2.2.2.2.2.2.2.2.2.2.2.2.2.2] :: Cl p0s0aa 115 [.pointer (some ⟨p0s0aaa, 0, none⟩), .nilIface, .int .i64 o0s0aa.1, .int .i64 o0s0aa.2.1, .nilIface, .int .i64 o0s0aa.2.2.1, .int .i64 o0s0aa.2.2.2, .map (some m0s0aah), .slice none 0 0, .slice none 0 0, .map (some m0s0aak)] :: Cl p0s0aaa 134 [.int .i64 o0s0aaa.1, .map (some m0s0aaab), .pointer (some ⟨p0s0aaac, 0, none⟩), .int .i64 o0s0aaa.2.1, .int .u64 o0s0aaa.2.2.1, .int .i64 o0s0aaa.2.2.2] :: Mp E64 m0s0aaab q0s0aaab :: Cl p0s0aaac 83 [.int .i64 o0s0aaac.1, .map (some m0s0aaacb), .slice A0s0aaacc q0s0aaacc.length c0s0aaacc, .bool o0s0aaac.2.1, .int .i64 o0s0aaac.2.2.1, .int .i64 o0s0aaac.2.2.2.1, .int .u64 o0s0aaac.2.2.2.2.1, .int .i64 o0s0aaac.2.2.2.2.2.1, .int .i64 o0s0aaac.2.2.2.2.2.2] :: Mp (Elt.slice E8) m0s0aaacb q0s0aaacb :: Bf (Elt.pair E64 (Elt.slice E8)) 158 A0s0aaacc c0s0aaacc q0s0aaacc :: Mp E64 m0s0aah q0s0aah :: Mp E64 m0s0aak q0s0aak :: Bf (Elt.pair (Elt.pair E64 (Elt.pair (Elt.slice E8) (Elt.slice E8))) EBool) 102 A0s0b c0s0b q0s0b :: hs) w) {r : Int × Bool × Int} (hr : view_notes_number.impl o0s0a o0s0aa o0s0aaa q0s0aaab o0s0aaac q0s0aaacb q0s0aaacc q0s0aah q0s0aak q0s0b a1 a2 = some r) :
    Calls Try.prog 24 #[.agg #[.pointer (some ⟨p0s0, 0, none⟩)], .int .i64 a1, .int .u8 a2] w fun e w' => ∃ x : Unit, e = .returned (.tuple #[.int .i64 r.1, .bool r.2.1, .int .i64 r.2.2]) ∧ St B (Cl p0s0 99 [.pointer (some ⟨p0s0a, 0, none⟩), .slice A0s0b q0s0b.length c0s0b] :: Cl p0s0a 89 [.pointer (some ⟨p0s0aa, 0, none⟩), .int .i64 o0s0a.1, .int .i64 o0s0a.2.1, .int .i64 o0s0a.2.2.1, .int .i64 o0s0a.2.2.2.1, .int .i64 o0s0a.2.2.2.2.1, .int .i64 o0s0a.2.2.2.2.2.1, .int .i64 o0s0a.2.2.2.2.2.2.1, .int .i64 o0s0a.2.2.2.2.2.2.2.1, .int .i64 o0s0a.2.2.2.2.2.2.2.2.1, .int .i64 o0s0a.2.2.2.2.2.2.2.2.2.1, .int .i64 o0s0a.2.2.2.2.2.2.2.2.2.2.1, .int .i64 o0s0a.2.2.2.2.2.2.2.2.2.2.2.1, .int .i64 o0s0a.2.2.2.2.2.2.2.2.2.2.2.2.1, .int .i64 o0s0a.2.2.2.2.2.2.2.2.2.2.2.2.2.1, .int .i64 o0s0a.2.2.2.2.2.2.2.2.2.2.2.2.2.2.1, .int .i64 o0s0a.2.2.2.2.2.2.2.2.2.2.2.2.2.2.2.1, .int .i64 o0s0a.2.2.2.2.2.2.2.2.2.2.2.2.2.2.2.2] :: Cl p0s0aa 115 [.pointer (some ⟨p0s0aaa, 0, none⟩), .nilIface, .int .i64 o0s0aa.1, .int .i64 o0s0aa.2.1, .nilIface, .int .i64 o0s0aa.2.2.1, .int .i64 o0s0aa.2.2.2, .map (some m0s0aah), .slice none 0 0, .slice none 0 0, .map (some m0s0aak)] :: Cl p0s0aaa 134 [.int .i64 o0s0aaa.1, .map (some m0s0aaab), .pointer (some ⟨p0s0aaac, 0, none⟩), .int .i64 o0s0aaa.2.1, .int .u64 o0s0aaa.2.2.1, .int .i64 o0s0aaa.2.2.2] :: Mp E64 m0s0aaab q0s0aaab :: Cl p0s0aaac 83 [.int .i64 o0s0aaac.1, .map (some m0s0aaacb), .slice A0s0aaacc q0s0aaacc.length c0s0aaacc, .bool o0s0aaac.2.1, .int .i64 o0s0aaac.2.2.1, .int .i64 o0s0aaac.2.2.2.1, .int .u64 o0s0aaac.2.2.2.2.1, .int .i64 o0s0aaac.2.2.2.2.2.1, .int .i64 o0s0aaac.2.2.2.2.2.2] :: Mp (Elt.slice E8) m0s0aaacb q0s0aaacb :: Bf (Elt.pair E64 (Elt.slice E8)) 158 A0s0aaacc c0s0aaacc q0s0aaacc :: Mp E64 m0s0aah q0s0aah :: Mp E64 m0s0aak q0s0aak :: Bf (Elt.pair (Elt.pair E64 (Elt.pair (Elt.slice E8) (Elt.slice E8))) EBool) 102 A0s0b c0s0b q0s0b :: hs) w' := by
 unfold view_notes_number.impl at hr
 refine calls_T Try.func24 rfl rfl rfl hS ?_
 refine T.seq ?_
 refine T.region ?_
 refine T.boxS .list rfl (wants0 rfl) rfl rfl (cs := [.pointer (some ⟨p0s0, 0, none⟩)]) rfl (fun b1 => ?_)
 refine T.assign .list rfl (wants0 rfl) rfl rfl ?_
 refine T.assign .list rfl (wants0 rfl) rfl rfl ?_
 refine T.assign .list rfl (wants0 rfl) rfl rfl ?_
 refine T.nil ?_
 refine T.then_normal ?_
 refine T.seq ?_
 refine T.region ?_
 refine T.field .list rfl (wants0 rfl) rfl rfl ?_
 refine T.load .list 0 rfl rfl (wants0 rfl) rfl rfl rfl ?_
 refine T.move .list rfl (wants0 rfl) rfl rfl ?_
 refine T.move .list rfl (wants0 rfl) rfl rfl ?_
 obtain ⟨hc1, hr⟩ := inv_chk hr
 refine T.lit (E := E8) .list (vals := [(0, .int .u8 a2)]) (cells := #[.int .u8 a2]) rfl (wants0 rfl) rfl rfl rfl rfl rfl (by kernel_rfl) ([(u8 (a2))] : List UInt8) rfl (fun _ _ _ _ _ => (Encs.c1 (enc := b8) (h1 := fun _ => rfl) (b8_u8 hc1.1 hc1.2) rfl)) (fun b2 => ?_)
 refine T.freeze 0 rfl rfl rfl ?_
 refine T.pick [2, 3, 4, 5, 6, 7, 8, 9, 10, 11, 12, 0, 1] 13 rfl rfl (Nat.le_add_left _ _) (hs' := Cl p0s0 99 [.pointer (some ⟨p0s0a, 0, none⟩), .slice A0s0b q0s0b.length c0s0b] :: Cl p0s0a 89 [.pointer (some ⟨p0s0aa, 0, none⟩), .int .i64 o0s0a.1, .int .i64 o0s0a.2.1, .int .i64 o0s0a.2.2.1, .int .i64 o0s0a.2.2.2.1, .int .i64 o0s0a.2.2.2.2.1, .int .i64 o0s0a.2.2.2.2.2.1, .int .i64 o0s0a.2.2.2.2.2.2.1, .int .i64 o0s0a.2.2.2.2.2.2.2.1, .int .i64 o0s0a.2.2.2.2.2.2.2.2.1, .int .i64 o0s0a.2.2.2.2.2.2.2.2.2.1, .int .i64 o0s0a.2.2.2.2.2.2.2.2.2.2.1, .int .i64 o0s0a.2.2.2.2.2.2.2.2.2.2.2.1, .int .i64 o0s0a.2.2.2.2.2.2.2.2.2.2.2.2.1, .int .i64 o0s0a.2.2.2.2.2.2.2.2.2.2.2.2.2.1, .int .i64 o0s0a.2.2.2.2.2.2.2.2.2.2.2.2.2.2.1, .int .i64 o0s0a.2.2.2.2.2.2.2.2.2.2.2.2.2.2.2.1, .int .i64 o0s0a.2.2.2.2.2.2.2.2.2.2.2.2.2.2.2.2] :: Cl p0s0aa 115 [.pointer (some ⟨p0s0aaa, 0, none⟩), .nilIface, .int .i64 o0s0aa.1, .int .i64 o0s0aa.2.1, .nilIface, .int .i64 o0s0aa.2.2.1, .int .i64 o0s0aa.2.2.2, .map (some m0s0aah), .slice none 0 0, .slice none 0 0, .map (some m0s0aak)] :: Cl p0s0aaa 134 [.int .i64 o0s0aaa.1, .map (some m0s0aaab), .pointer (some ⟨p0s0aaac, 0, none⟩), .int .i64 o0s0aaa.2.1, .int .u64 o0s0aaa.2.2.1, .int .i64 o0s0aaa.2.2.2] :: Mp E64 m0s0aaab q0s0aaab :: Cl p0s0aaac 83 [.int .i64 o0s0aaac.1, .map (some m0s0aaacb), .slice A0s0aaacc q0s0aaacc.length c0s0aaacc, .bool o0s0aaac.2.1, .int .i64 o0s0aaac.2.2.1, .int .i64 o0s0aaac.2.2.2.1, .int .u64 o0s0aaac.2.2.2.2.1, .int .i64 o0s0aaac.2.2.2.2.2.1, .int .i64 o0s0aaac.2.2.2.2.2.2] :: Mp (Elt.slice E8) m0s0aaacb q0s0aaacb :: Bf (Elt.pair E64 (Elt.slice E8)) 158 A0s0aaacc c0s0aaacc q0s0aaacc :: Mp E64 m0s0aah q0s0aah :: Mp E64 m0s0aak q0s0aak :: Bf (Elt.pair (Elt.pair E64 (Elt.pair (Elt.slice E8) (Elt.slice E8))) EBool) 102 A0s0b c0s0b q0s0b :: Ro E8 (some ⟨b2, 0, none⟩) 1 (([(u8 (a2))] : List UInt8)) :: Cl b1 71 [.pointer (some ⟨p0s0, 0, none⟩)] :: hs) rfl ?_
 obtain ⟨r1, hg1, hr⟩ := inv_bind hr
 refine T.call .list (wants0 rfl) rfl (run_callF (vs := [_, _, _]) rfl Try.func31 rfl (by decide) rfl) (fun w hS => draft_Draft_Get.c hS (i2 := 11) (o0a := (o0s0a.1, o0s0a.2.1, o0s0a.2.2.1, o0s0a.2.2.2.1, o0s0a.2.2.2.2.1, o0s0a.2.2.2.2.2.1, o0s0a.2.2.2.2.2.2.1, o0s0a.2.2.2.2.2.2.2.1, o0s0a.2.2.2.2.2.2.2.2.1, o0s0a.2.2.2.2.2.2.2.2.2.1, o0s0a.2.2.2.2.2.2.2.2.2.2.1, o0s0a.2.2.2.2.2.2.2.2.2.2.2.1, o0s0a.2.2.2.2.2.2.2.2.2.2.2.2.1, o0s0a.2.2.2.2.2.2.2.2.2.2.2.2.2.1, o0s0a.2.2.2.2.2.2.2.2.2.2.2.2.2.2.1, o0s0a.2.2.2.2.2.2.2.2.2.2.2.2.2.2.2.1, o0s0a.2.2.2.2.2.2.2.2.2.2.2.2.2.2.2.2)) (o0aa := (o0s0aa.1, o0s0aa.2.1, o0s0aa.2.2.1, o0s0aa.2.2.2)) (o0aaa := (o0s0aaa.1, o0s0aaa.2.1, o0s0aaa.2.2.1, o0s0aaa.2.2.2)) (q0aaab := q0s0aaab) (o0aaac := (o0s0aaac.1, o0s0aaac.2.1, o0s0aaac.2.2.1, o0s0aaac.2.2.2.1, o0s0aaac.2.2.2.2.1, o0s0aaac.2.2.2.2.2.1, o0s0aaac.2.2.2.2.2.2)) (q0aaacb := q0s0aaacb) (q0aaacc := q0s0aaacc) (q0aah := q0s0aah) (q0aak := q0s0aak) (q0b := q0s0b) rfl hg1) (fun x1 => ?_)
 refine T.move .list rfl (wants0 rfl) rfl rfl ?_
 refine T.extract .list rfl (wants0 rfl) rfl rfl rfl ?_
 refine T.extract .list rfl (wants0 rfl) rfl rfl rfl ?_
 refine T.extract .list rfl (wants0 rfl) rfl rfl rfl ?_
 refine T.assign .list rfl (wants0 rfl) rfl rfl ?_
 refine T.assign .list rfl (wants0 rfl) rfl rfl ?_
 refine T.assign .list rfl (wants0 rfl) rfl rfl ?_
 refine T.nil ?_
 refine T.then_normal ?_
 refine T.seq ?_
 refine T.seqJ (fun (s1 : Bool) (x2 : Unit) => [(9, .slice x1.1 r1.1.length x1.2), (11, .int .i64 r1.2.2), (29, .bool s1)]) (fun s1 x2 => Bf E8 5 x1.1 x1.2 r1.1 :: Cl p0s0 99 [.pointer (some ⟨p0s0a, 0, none⟩), .slice A0s0b q0s0b.length c0s0b] :: Cl p0s0a 89 [.pointer (some ⟨p0s0aa, 0, none⟩), .int .i64 o0s0a.1, .int .i64 o0s0a.2.1, .int .i64 o0s0a.2.2.1, .int .i64 o0s0a.2.2.2.1, .int .i64 o0s0a.2.2.2.2.1, .int .i64 o0s0a.2.2.2.2.2.1, .int .i64 o0s0a.2.2.2.2.2.2.1, .int .i64 o0s0a.2.2.2.2.2.2.2.1, .int .i64 o0s0a.2.2.2.2.2.2.2.2.1, .int .i64 o0s0a.2.2.2.2.2.2.2.2.2.1, .int .i64 o0s0a.2.2.2.2.2.2.2.2.2.2.1, .int .i64 o0s0a.2.2.2.2.2.2.2.2.2.2.2.1, .int .i64 o0s0a.2.2.2.2.2.2.2.2.2.2.2.2.1, .int .i64 o0s0a.2.2.2.2.2.2.2.2.2.2.2.2.2.1, .int .i64 o0s0a.2.2.2.2.2.2.2.2.2.2.2.2.2.2.1, .int .i64 o0s0a.2.2.2.2.2.2.2.2.2.2.2.2.2.2.2.1, .int .i64 o0s0a.2.2.2.2.2.2.2.2.2.2.2.2.2.2.2.2] :: Cl p0s0aa 115 [.pointer (some ⟨p0s0aaa, 0, none⟩), .nilIface, .int .i64 o0s0aa.1, .int .i64 o0s0aa.2.1, .nilIface, .int .i64 o0s0aa.2.2.1, .int .i64 o0s0aa.2.2.2, .map (some m0s0aah), .slice none 0 0, .slice none 0 0, .map (some m0s0aak)] :: Cl p0s0aaa 134 [.int .i64 o0s0aaa.1, .map (some m0s0aaab), .pointer (some ⟨p0s0aaac, 0, none⟩), .int .i64 o0s0aaa.2.1, .int .u64 o0s0aaa.2.2.1, .int .i64 o0s0aaa.2.2.2] :: Mp E64 m0s0aaab q0s0aaab :: Cl p0s0aaac 83 [.int .i64 o0s0aaac.1, .map (some m0s0aaacb), .slice A0s0aaacc q0s0aaacc.length c0s0aaacc, .bool o0s0aaac.2.1, .int .i64 o0s0aaac.2.2.1, .int .i64 o0s0aaac.2.2.2.1, .int .u64 o0s0aaac.2.2.2.2.1, .int .i64 o0s0aaac.2.2.2.2.2.1, .int .i64 o0s0aaac.2.2.2.2.2.2] :: Mp (Elt.slice E8) m0s0aaacb q0s0aaacb :: Bf (Elt.pair E64 (Elt.slice E8)) 158 A0s0aaacc c0s0aaacc q0s0aaacc :: Mp E64 m0s0aah q0s0aah :: Mp E64 m0s0aak q0s0aak :: Bf (Elt.pair (Elt.pair E64 (Elt.pair (Elt.slice E8) (Elt.slice E8))) EBool) 102 A0s0b c0s0b q0s0b :: hs) (fun s1 => view_notes_number.k1 r1 s1 = some r) (fun s1 x2 hk1 => ?_) (fun J1 => ?_)
 ·unfold view_notes_number.k1 at hk1
  refine T.cond rfl (fun hb1 => ?_) (fun hb1 => ?_)
  ·replace hk1 := inv_posB hb1 hk1
   refine T.seq ?_
   refine T.region ?_
   refine T.move .list rfl (wants0 rfl) rfl rfl ?_
   refine T.assign .list rfl (wants0 rfl) rfl rfl ?_
   refine T.assign .list rfl (wants0 rfl) rfl rfl ?_
   refine T.assign .list rfl (wants0 rfl) rfl rfl ?_
   refine T.nil ?_
   refine T.then_normal ?_
   refine T.ret ?_
   refine T.then_ret ?_
   obtain rfl := inv_some hk1
   refine T.pick [1, 2, 3, 4, 5, 6, 7, 8, 9, 10, 11] 12 rfl rfl (Nat.le_add_left _ _) rfl ?_
   refine T.ret3 rfl rfl rfl rfl (fun w hS => ⟨(), rfl, hS⟩)
  ·replace hk1 := inv_negB hb1 hk1
   refine T.skip ?_
   refine T.then_normal ?_
   refine T.seq ?_
   refine T.region ?_
   refine T.move .list rfl (wants0 rfl) rfl rfl ?_
   obtain ⟨r2, hg2, hk1⟩ := inv_bind hk1
   refine T.call .list (wants0 rfl) rfl (run_callF (vs := [_, _]) rfl Try.func27 rfl (by decide) rfl) (fun w hS => (wire_ReadUint.c (St.borrow (ros := [Ro E8 x1.1 x1.2 r1.1]) (Ros.cons (hS.roBf 0 rfl rfl) Ros.nil)) (i0 := 0) rfl hg2).mono fun e w' ⟨x, he, h1⟩ => ⟨x, he, hS.unborrow (post := []) h1 Frees.nil⟩) (fun x3 => ?_)
   refine T.move .list rfl (wants0 rfl) rfl rfl ?_
   refine T.extract .list rfl (wants0 rfl) rfl rfl rfl ?_
   refine T.extract .list rfl (wants0 rfl) rfl rfl rfl ?_
   refine T.extract .list rfl (wants0 rfl) rfl rfl rfl ?_
   refine T.assign .list rfl (wants0 rfl) rfl rfl ?_
   refine T.assign .list rfl (wants0 rfl) rfl rfl ?_
   refine T.assign .list rfl (wants0 rfl) rfl rfl ?_
   refine T.nil ?_
   refine T.then_normal ?_
   refine T.seq ?_
   refine T.seq ?_
   refine T.region ?_
   refine T.move .list rfl (wants0 rfl) rfl rfl ?_
   refine T.bin .list rfl (wants0 rfl) rfl rfl rfl rfl ?_
   refine T.nil ?_
   refine T.then_normal ?_
   refine T.cond rfl (fun hb2 => ?_) (fun hb2 => ?_)
   ·replace hk1 := inv_posB hb2 hk1
    refine T.seq ?_
    refine T.region ?_
    refine T.assign .list rfl (wants0 rfl) rfl rfl ?_
    refine T.assign .list rfl (wants0 rfl) rfl rfl ?_
    refine T.assign .list rfl (wants0 rfl) rfl rfl ?_
    refine T.nil ?_
    refine T.then_normal ?_
    refine T.ret ?_
    refine T.then_ret ?_
    obtain rfl := inv_some hk1
    refine T.pick [1, 2, 3, 4, 5, 6, 7, 8, 9, 10, 11] 12 rfl rfl (Nat.le_add_left _ _) rfl ?_
    refine T.ret3 rfl rfl rfl rfl (fun w hS => ⟨(), rfl, hS⟩)
   ·replace hk1 := inv_negB hb2 hk1
    refine T.skip ?_
    refine T.then_normal ?_
    refine T.seq ?_
    refine T.region ?_
    refine T.move .list rfl (wants0 rfl) rfl rfl ?_
    refine T.assign .list rfl (wants0 rfl) rfl rfl ?_
    refine T.assign .list rfl (wants0 rfl) rfl rfl ?_
    refine T.assign .list rfl (wants0 rfl) rfl rfl ?_
    refine T.nil ?_
    refine T.then_normal ?_
    refine T.ret ?_
    obtain rfl := inv_some hk1
    refine T.pick [1, 2, 3, 4, 5, 6, 7, 8, 9, 10, 11] 12 rfl rfl (Nat.le_add_left _ _) rfl ?_
    refine T.ret3 rfl rfl rfl rfl (fun w hS => ⟨(), rfl, hS⟩)
 ·refine T.region ?_
  refine T.move .list rfl (wants0 rfl) rfl rfl ?_
  refine T.bin .list rfl (wants0 rfl) rfl rfl rfl rfl ?_
  refine T.move .list rfl (wants0 rfl) rfl rfl ?_
  refine T.bool (b := (decide (r1.2.2 = 0))) (fun hb3 => ?_) (fun hb3 => ?_)
  ·replace hr := inv_posB hb3 hr
   refine T.move .list rfl (wants1 rfl rfl rfl (not_t hb3)) rfl rfl ?_
   refine T.not .list rfl (wants1 rfl rfl rfl (not_t hb3)) rfl rfl ?_
   refine T.pickF .list rfl (wants0 rfl) rfl rfl (not_t hb3) rfl ?_
   refine T.nil ?_
   refine T.then_normal ?_
   exact T.le (EnvLe.cons rfl (EnvLe.cons rfl (EnvLe.cons rfl EnvLe.nil))) (T.pick [0, 1, 2, 3, 4, 5, 6, 7, 8, 9, 10, 11] 14 rfl rfl (Nat.le_add_left _ _) rfl (J1 (!r1.2.1) () hr))
  ·replace hr := inv_negB hb3 hr
   refine T.leave .list (wantsNot rfl rfl rfl (not_f hb3)) rfl ?_
   refine T.leave .list (wantsNot rfl rfl rfl (not_f hb3)) rfl ?_
   refine T.pickT .list rfl (wants0 rfl) rfl rfl (not_f hb3) rfl ?_
   refine T.nil ?_
   refine T.then_normal ?_
   exact T.le (EnvLe.cons rfl (EnvLe.cons rfl (EnvLe.cons rfl EnvLe.nil))) (T.pick [0, 1, 2, 3, 4, 5, 6, 7, 8, 9, 10, 11] 14 rfl rfl (Nat.le_add_left _ _) rfl (J1 true () hr))

noncomputable def view_notes_of.impl (o0s0a : Int × Int × Int × Int × Int × Int × Int × Int × Int × Int × Int × Int × Int × Int × Int × Int × Int) (o0s0aa : Int × Int × Int × Int) (o0s0aaa : Int × Int × Int × Int) (q0s0aaab : List (Int × Int)) (o0s0aaac : Int × Bool × Int × Int × Int × Int × Int) (q0s0aaacb : List (Int × (List UInt8))) (q0s0aaacc : List (Int × (List UInt8))) (q0s0aah : List (Int × Int)) (q0s0aak : List (Int × Int)) (q0s0b : List ((Int × (List UInt8) × (List UInt8)) × Bool)) (a1 : Int) : Option (Int × Bool × Int) :=
  (view_notes_number.impl ((o0s0a.1, o0s0a.2.1, o0s0a.2.2.1, o0s0a.2.2.2.1, o0s0a.2.2.2.2.1, o0s0a.2.2.2.2.2.1, o0s0a.2.2.2.2.2.2.1, o0s0a.2.2.2.2.2.2.2.1, o0s0a.2.2.2.2.2.2.2.2.1, o0s0a.2.2.2.2.2.2.2.2.2.1, o0s0a.2.2.2.2.2.2.2.2.2.2.1, o0s0a.2.2.2.2.2.2.2.2.2.2.2.1, o0s0a.2.2.2.2.2.2.2.2.2.2.2.2.1, o0s0a.2.2.2.2.2.2.2.2.2.2.2.2.2.1, o0s0a.2.2.2.2.2.2.2.2.2.2.2.2.2.2.1, o0s0a.2.2.2.2.2.2.2.2.2.2.2.2.2.2.2.1, o0s0a.2.2.2.2.2.2.2.2.2.2.2.2.2.2.2.2)) ((o0s0aa.1, o0s0aa.2.1, o0s0aa.2.2.1, o0s0aa.2.2.2)) ((o0s0aaa.1, o0s0aaa.2.1, o0s0aaa.2.2.1, o0s0aaa.2.2.2)) q0s0aaab ((o0s0aaac.1, o0s0aaac.2.1, o0s0aaac.2.2.1, o0s0aaac.2.2.2.1, o0s0aaac.2.2.2.2.1, o0s0aaac.2.2.2.2.2.1, o0s0aaac.2.2.2.2.2.2)) q0s0aaacb q0s0aaacc q0s0aah q0s0aak q0s0b 6 (IntKind.u8.wrap a1)).bind fun r1 => some (r1.1, r1.2.1, r1.2.2)
set_option maxRecDepth 100000 in
set_option maxHeartbeats 4000000 in
theorem view_notes_of.c {B : World} {hs : List MP} {w : World} {p0s0 : Nat} {p0s0a : Nat} {o0s0a : Int × Int × Int × Int × Int × Int × Int × Int × Int × Int × Int × Int × Int × Int × Int × Int × Int} {p0s0aa : Nat} {o0s0aa : Int × Int × Int × Int} {p0s0aaa : Nat} {o0s0aaa : Int × Int × Int × Int} {m0s0aaab : Nat} {q0s0aaab : List (Int × Int)} {p0s0aaac : Nat} {o0s0aaac : Int × Bool × Int × Int × Int × Int × Int} {m0s0aaacb : Nat} {q0s0aaacb : List (Int × (List UInt8))} {c0s0aaacc : Nat} {A0s0aaacc : Option Addr} {q0s0aaacc : List (Int × (List UInt8))} {m0s0aah : Nat} {q0s0aah : List (Int × Int)} {m0s0aak : Nat} {q0s0aak : List (Int × Int)} {c0s0b : Nat} {A0s0b : Option Addr} {q0s0b : List ((Int × (List UInt8) × (List UInt8)) × Bool)} {a1 : Int} (hS : St B (Cl p0s0 99 [.pointer (some ⟨p0s0a, 0, none⟩), .slice A0s0b q0s0b.length c0s0b] :: Cl p0s0a 89 [.pointer (some ⟨p0s0aa, 0, none⟩), .int .i64 o0s0a.1, .int .i64 o0s0a.2.1, .int .i64 o0s0a.2.2.1, .int .i64 o0s0a.2.2.2.1, .int .i64 o0s0a.2.2.2.2.1, .int .i64 o0s0a.2.2.2.2.2.1, .int .i64 o0s0a.2.2.2.2.2.2.1, .int .i64 o0s0a.2.2.2.2.2.2.2.1, .int .i64 o0s0a.2.2.2.2.2.2.2.2.1, .int .i64 o0s0a.2.2.2.2.2.2.2.2.2.1, .int .i64 o0s0a.2.2.2.2.2.2.2.2.2.2.1, .int .i64 o0s0a.2.2.2.2.2.2.2.2.2.2.2.1, .int .i64 o0s0a.2.2.2.2.2.2.2.2.2.2.2.2.1, .int .i64 o0s0a.2.2.2.2.2.2.2.2.2.2.2.2.2.1, .int .i64 o0s0a.2.2.2.2.2.2.2.2.2.2.2.2.2.2.1, .int .i64 o0s0a.2.2.2.2.2.2.2.2.2.2.2.2.2.2.2.1, .int .i64 o0s0a.2.2.2.2.2.2.2.2.2.2.2.2.2.2.2.2] :: Cl p0s0aa 115 [.pointer (some ⟨p0s0aaa, 0, none⟩), .nilIface, .int .i64 o0s0aa.1, .int .i64 o0s0aa.2.1, .nilIface, .int .i64 o0s0aa.2.2.1, .int .i64 o0s0aa.2.2.2, .map (some m0s0aah), .slice none 0 0, .slice none 0 0, .map (some m0s0aak)] :: Cl p0s0aaa 134 [.int .i64 o0s0aaa.1, .map (some m0s0aaab), .pointer (some ⟨p0s0aaac, 0, none⟩), .int .i64 o0s0aaa.2.1, .int .u64 o0s0aaa.2.2.1, .int .i64 o0s0aaa.2.2.2] :: Mp E64 m0s0aaab q0s0aaab :: Cl p0s0aaac 83 [.int .i64 o0s0aaac.1, .map (some m0s0aaacb), .slice A0s0aaacc q0s0aaacc.length c0s0aaacc, .bool o0s0aaac.2.1, .int .i64 o0s0aaac.2.2.1, .int .i64 o0s0aaac.2.2.2.1, .int .u64 o0s0aaac.2.2.2.2.1, .int .i64 o0s0aaac.2.2.2.2.2.1, .int .i64 o0s0aaac.2.2.2.2.2.2] :: Mp (Elt.slice E8) m0s0aaacb q0s0aaacb :: Bf (Elt.pair E64 (Elt.slice E8)) 158 A0s0aaacc c0s0aaacc q0s0aaacc :: Mp E64 m0s0aah q0s0aah :: Mp E64 m0s0aak q0s0aak :: Bf (Elt.pair (Elt.pair E64 (Elt.pair (Elt.slice E8) (Elt.slice E8))) EBool) 102 A0s0b c0s0b q0s0b :: hs) w) {r : Int × Bool × Int} (hr : view_notes_of.impl o0s0a o0s0aa o0s0aaa q0s0aaab o0s0aaac q0s0aaacb q0s0aaacc q0s0aah q0s0aak q0s0b a1 = some r) :
    Calls Try.prog 21 #[.agg #[.pointer (some ⟨p0s0, 0, none⟩)], .int .i64 a1] w fun e w' => ∃ x : Unit, e = .returned (.tuple #[.int .i64 r.1, .bool r.2.1, .int .i64 r.2.2]) ∧ St B (Cl p0s0 99 [.pointer (some ⟨p0s0a, 0, none⟩), .slice A0s0b q0s0b.length c0s0b] :: Cl p0s0a 89 [.pointer (some ⟨p0s0aa, 0, none⟩), .int .i64 o0s0a.1, .int .i64 o0s0a.2.1, .int .i64 o0s0a.2.2.1, .int .i64 o0s0a.2.2.2.1, .int .i64 o0s0a.2.2.2.2.1, .int .i64 o0s0a.2.2.2.2.2.1, .int .i64 o0s0a.2.2.2.2.2.2.1, .int .i64 o0s0a.2.2.2.2.2.2.2.1, .int .i64 o0s0a.2.2.2.2.2.2.2.2.1, .int .i64 o0s0a.2.2.2.2.2.2.2.2.2.1, .int .i64 o0s0a.2.2.2.2.2.2.2.2.2.2.1, .int .i64 o0s0a.2.2.2.2.2.2.2.2.2.2.2.1, .int .i64 o0s0a.2.2.2.2.2.2.2.2.2.2.2.2.1, .int .i64 o0s0a.2.2.2.2.2.2.2.2.2.2.2.2.2.1, .int .i64 o0s0a.2.2.2.2.2.2.2.2.2.2.2.2.2.2.1, .int .i64 o0s0a.2.2.2.2.2.2.2.2.2.2.2.2.2.2.2.1, .int .i64 o0s0a.2.2.2.2.2.2.2.2.2.2.2.2.2.2.2.2] :: Cl p0s0aa 115 [.pointer (some ⟨p0s0aaa, 0, none⟩), .nilIface, .int .i64 o0s0aa.1, .int .i64 o0s0aa.2.1, .nilIface, .int .i64 o0s0aa.2.2.1, .int .i64 o0s0aa.2.2.2, .map (some m0s0aah), .slice none 0 0, .slice none 0 0, .map (some m0s0aak)] :: Cl p0s0aaa 134 [.int .i64 o0s0aaa.1, .map (some m0s0aaab), .pointer (some ⟨p0s0aaac, 0, none⟩), .int .i64 o0s0aaa.2.1, .int .u64 o0s0aaa.2.2.1, .int .i64 o0s0aaa.2.2.2] :: Mp E64 m0s0aaab q0s0aaab :: Cl p0s0aaac 83 [.int .i64 o0s0aaac.1, .map (some m0s0aaacb), .slice A0s0aaacc q0s0aaacc.length c0s0aaacc, .bool o0s0aaac.2.1, .int .i64 o0s0aaac.2.2.1, .int .i64 o0s0aaac.2.2.2.1, .int .u64 o0s0aaac.2.2.2.2.1, .int .i64 o0s0aaac.2.2.2.2.2.1, .int .i64 o0s0aaac.2.2.2.2.2.2] :: Mp (Elt.slice E8) m0s0aaacb q0s0aaacb :: Bf (Elt.pair E64 (Elt.slice E8)) 158 A0s0aaacc c0s0aaacc q0s0aaacc :: Mp E64 m0s0aah q0s0aah :: Mp E64 m0s0aak q0s0aak :: Bf (Elt.pair (Elt.pair E64 (Elt.pair (Elt.slice E8) (Elt.slice E8))) EBool) 102 A0s0b c0s0b q0s0b :: hs) w' := by
 unfold view_notes_of.impl at hr
 refine calls_T Try.func21 rfl rfl rfl hS ?_
 refine T.seq ?_
 refine T.region ?_
 refine T.boxS .list rfl (wants0 rfl) rfl rfl (cs := [.pointer (some ⟨p0s0, 0, none⟩)]) rfl (fun b1 => ?_)
 refine T.assign .list rfl (wants0 rfl) rfl rfl ?_
 refine T.assign .list rfl (wants0 rfl) rfl rfl ?_
 refine T.assign .list rfl (wants0 rfl) rfl rfl ?_
 refine T.nil ?_
 refine T.then_normal ?_
 refine T.seq ?_
 refine T.region ?_
 refine T.loadN .list 0 rfl rfl (wants0 rfl) rfl rfl (vs := [.pointer (some ⟨p0s0, 0, none⟩)]) rfl rfl ?_
 refine T.move .list rfl (wants0 rfl) rfl rfl ?_
 refine T.conv .list rfl (wants0 rfl) rfl rfl rfl ?_
 refine T.pick [1, 2, 3, 4, 5, 6, 7, 8, 9, 10, 11, 0] 12 rfl rfl (Nat.le_add_left _ _) (hs' := Cl p0s0 99 [.pointer (some ⟨p0s0a, 0, none⟩), .slice A0s0b q0s0b.length c0s0b] :: Cl p0s0a 89 [.pointer (some ⟨p0s0aa, 0, none⟩), .int .i64 o0s0a.1, .int .i64 o0s0a.2.1, .int .i64 o0s0a.2.2.1, .int .i64 o0s0a.2.2.2.1, .int .i64 o0s0a.2.2.2.2.1, .int .i64 o0s0a.2.2.2.2.2.1, .int .i64 o0s0a.2.2.2.2.2.2.1, .int .i64 o0s0a.2.2.2.2.2.2.2.1, .int .i64 o0s0a.2.2.2.2.2.2.2.2.1, .int .i64 o0s0a.2.2.2.2.2.2.2.2.2.1, .int .i64 o0s0a.2.2.2.2.2.2.2.2.2.2.1, .int .i64 o0s0a.2.2.2.2.2.2.2.2.2.2.2.1, .int .i64 o0s0a.2.2.2.2.2.2.2.2.2.2.2.2.1, .int .i64 o0s0a.2.2.2.2.2.2.2.2.2.2.2.2.2.1, .int .i64 o0s0a.2.2.2.2.2.2.2.2.2.2.2.2.2.2.1, .int .i64 o0s0a.2.2.2.2.2.2.2.2.2.2.2.2.2.2.2.1, .int .i64 o0s0a.2.2.2.2.2.2.2.2.2.2.2.2.2.2.2.2] :: Cl p0s0aa 115 [.pointer (some ⟨p0s0aaa, 0, none⟩), .nilIface, .int .i64 o0s0aa.1, .int .i64 o0s0aa.2.1, .nilIface, .int .i64 o0s0aa.2.2.1, .int .i64 o0s0aa.2.2.2, .map (some m0s0aah), .slice none 0 0, .slice none 0 0, .map (some m0s0aak)] :: Cl p0s0aaa 134 [.int .i64 o0s0aaa.1, .map (some m0s0aaab), .pointer (some ⟨p0s0aaac, 0, none⟩), .int .i64 o0s0aaa.2.1, .int .u64 o0s0aaa.2.2.1, .int .i64 o0s0aaa.2.2.2] :: Mp E64 m0s0aaab q0s0aaab :: Cl p0s0aaac 83 [.int .i64 o0s0aaac.1, .map (some m0s0aaacb), .slice A0s0aaacc q0s0aaacc.length c0s0aaacc, .bool o0s0aaac.2.1, .int .i64 o0s0aaac.2.2.1, .int .i64 o0s0aaac.2.2.2.1, .int .u64 o0s0aaac.2.2.2.2.1, .int .i64 o0s0aaac.2.2.2.2.2.1, .int .i64 o0s0aaac.2.2.2.2.2.2] :: Mp (Elt.slice E8) m0s0aaacb q0s0aaacb :: Bf (Elt.pair E64 (Elt.slice E8)) 158 A0s0aaacc c0s0aaacc q0s0aaacc :: Mp E64 m0s0aah q0s0aah :: Mp E64 m0s0aak q0s0aak :: Bf (Elt.pair (Elt.pair E64 (Elt.pair (Elt.slice E8) (Elt.slice E8))) EBool) 102 A0s0b c0s0b q0s0b :: Cl b1 71 [.pointer (some ⟨p0s0, 0, none⟩)] :: hs) rfl ?_
 obtain ⟨r1, hg1, hr⟩ := inv_bind hr
 refine T.call .list (wants0 rfl) rfl (run_callF (vs := [_, _, _]) rfl Try.func24 rfl (by decide) rfl) (fun w hS => view_notes_number.c hS (o0s0a := (o0s0a.1, o0s0a.2.1, o0s0a.2.2.1, o0s0a.2.2.2.1, o0s0a.2.2.2.2.1, o0s0a.2.2.2.2.2.1, o0s0a.2.2.2.2.2.2.1, o0s0a.2.2.2.2.2.2.2.1, o0s0a.2.2.2.2.2.2.2.2.1, o0s0a.2.2.2.2.2.2.2.2.2.1, o0s0a.2.2.2.2.2.2.2.2.2.2.1, o0s0a.2.2.2.2.2.2.2.2.2.2.2.1, o0s0a.2.2.2.2.2.2.2.2.2.2.2.2.1, o0s0a.2.2.2.2.2.2.2.2.2.2.2.2.2.1, o0s0a.2.2.2.2.2.2.2.2.2.2.2.2.2.2.1, o0s0a.2.2.2.2.2.2.2.2.2.2.2.2.2.2.2.1, o0s0a.2.2.2.2.2.2.2.2.2.2.2.2.2.2.2.2)) (o0s0aa := (o0s0aa.1, o0s0aa.2.1, o0s0aa.2.2.1, o0s0aa.2.2.2)) (o0s0aaa := (o0s0aaa.1, o0s0aaa.2.1, o0s0aaa.2.2.1, o0s0aaa.2.2.2)) (q0s0aaab := q0s0aaab) (o0s0aaac := (o0s0aaac.1, o0s0aaac.2.1, o0s0aaac.2.2.1, o0s0aaac.2.2.2.1, o0s0aaac.2.2.2.2.1, o0s0aaac.2.2.2.2.2.1, o0s0aaac.2.2.2.2.2.2)) (q0s0aaacb := q0s0aaacb) (q0s0aaacc := q0s0aaacc) (q0s0aah := q0s0aah) (q0s0aak := q0s0aak) (q0s0b := q0s0b)  hg1) (fun x1 => ?_)
 refine T.extract .list rfl (wants0 rfl) rfl rfl rfl ?_
 refine T.extract .list rfl (wants0 rfl) rfl rfl rfl ?_
 refine T.extract .list rfl (wants0 rfl) rfl rfl rfl ?_
 refine T.assign .list rfl (wants0 rfl) rfl rfl ?_
 refine T.assign .list rfl (wants0 rfl) rfl rfl ?_
 refine T.assign .list rfl (wants0 rfl) rfl rfl ?_
 refine T.nil ?_
 refine T.then_normal ?_
 refine T.ret ?_
 obtain rfl := inv_some hr
 refine T.pick [0, 1, 2, 3, 4, 5, 6, 7, 8, 9, 10] 12 rfl rfl (Nat.le_add_left _ _) rfl ?_
 refine T.ret3 rfl rfl rfl rfl (fun w hS => ⟨(), rfl, hS⟩)

noncomputable def view_right.impl (o0a : Int × Int × Int × Int × Int × Int × Int × Int × Int × Int × Int × Int × Int × Int × Int × Int × Int) (o0aa : Int × Int × Int × Int) (o0aaa : Int × Int × Int × Int) (q0aaab : List (Int × Int)) (o0aaac : Int × Bool × Int × Int × Int × Int × Int) (q0aaacb : List (Int × (List UInt8))) (q0aaacc : List (Int × (List UInt8))) (q0aah : List (Int × Int)) (q0aak : List (Int × Int)) (q0b : List ((Int × (List UInt8) × (List UInt8)) × Bool)) (a1 : Int) : Option Bool :=
  (if ((decide ((0 : Int) ≤ a1))) = true then some (decide (a1 < 4)) else some false)
set_option maxRecDepth 100000 in
set_option maxHeartbeats 4000000 in
theorem view_right.c {B : World} {hs : List MP} {w : World} {p0 : Nat} {p0a : Nat} {o0a : Int × Int × Int × Int × Int × Int × Int × Int × Int × Int × Int × Int × Int × Int × Int × Int × Int} {p0aa : Nat} {o0aa : Int × Int × Int × Int} {p0aaa : Nat} {o0aaa : Int × Int × Int × Int} {m0aaab : Nat} {q0aaab : List (Int × Int)} {p0aaac : Nat} {o0aaac : Int × Bool × Int × Int × Int × Int × Int} {m0aaacb : Nat} {q0aaacb : List (Int × (List UInt8))} {c0aaacc : Nat} {A0aaacc : Option Addr} {q0aaacc : List (Int × (List UInt8))} {m0aah : Nat} {q0aah : List (Int × Int)} {m0aak : Nat} {q0aak : List (Int × Int)} {c0b : Nat} {A0b : Option Addr} {q0b : List ((Int × (List UInt8) × (List UInt8)) × Bool)} {a1 : Int} (hS : St B (Cl p0 99 [.pointer (some ⟨p0a, 0, none⟩), .slice A0b q0b.length c0b] :: Cl p0a 89 [.pointer (some ⟨p0aa, 0, none⟩), .int .i64 o0a.1, .int .i64 o0a.2.1, .int .i64 o0a.2.2.1, .int .i64 o0a.2.2.2.1, .int .i64 o0a.2.2.2.2.1, .int .i64 o0a.2.2.2.2.2.1, .int .i64 o0a.2.2.2.2.2.2.1, .int .i64 o0a.2.2.2.2.2.2.2.1, .int .i64 o0a.2.2.2.2.2.2.2.2.1, .int .i64 o0a.2.2.2.2.2.2.2.2.2.1, .int .i64 o0a.2.2.2.2.2.2.2.2.2.2.1, .int .i64 o0a.2.2.2.2.2.2.2.2.2.2.2.1, .int .i64 o0a.2.2.2.2.2.2.2.2.2.2.2.2.1, .int .i64 o0a.2.2.2.2.2.2.2.2.2.2.2.2.2.1, .int .i64 o0a.2.2.2.2.2.2.2.2.2.2.2.2.2.2.1, .int .i64 o0a.2.2.2.2.2.2.2.2.2.2.2.2.2.2.2.1, .int .i64 o0a.2.2.2.2.2.2.2.2.2.2.2.2.2.2.2.2] :: Cl p0aa 115 [.pointer (some ⟨p0aaa, 0, none⟩), .nilIface, .int .i64 o0aa.1, .int .i64 o0aa.2.1, .nilIface, .int .i64 o0aa.2.2.1, .int .i64 o0aa.2.2.2, .map (some m0aah), .slice none 0 0, .slice none 0 0, .map (some m0aak)] :: Cl p0aaa 134 [.int .i64 o0aaa.1, .map (some m0aaab), .pointer (some ⟨p0aaac, 0, none⟩), .int .i64 o0aaa.2.1, .int .u64 o0aaa.2.2.1, .int .i64 o0aaa.2.2.2] :: Mp E64 m0aaab q0aaab :: Cl p0aaac 83 [.int .i64 o0aaac.1, .map (some m0aaacb), .slice A0aaacc q0aaacc.length c0aaacc, .bool o0aaac.2.1, .int .i64 o0aaac.2.2.1, .int .i64 o0aaac.2.2.2.1, .int .u64 o0aaac.2.2.2.2.1, .int .i64 o0aaac.2.2.2.2.2.1, .int .i64 o0aaac.2.2.2.2.2.2] :: Mp (Elt.slice E8) m0aaacb q0aaacb :: Bf (Elt.pair E64 (Elt.slice E8)) 158 A0aaacc c0aaacc q0aaacc :: Mp E64 m0aah q0aah :: Mp E64 m0aak q0aak :: Bf (Elt.pair (Elt.pair E64 (Elt.pair (Elt.slice E8) (Elt.slice E8))) EBool) 102 A0b c0b q0b :: hs) w) {r : Bool} (hr : view_right.impl o0a o0aa o0aaa q0aaab o0aaac q0aaacb q0aaacc q0aah q0aak q0b a1 = some r) :
    Calls Try.prog 20 #[.pointer (some ⟨p0, 0, none⟩), .int .i64 a1] w fun e w' => ∃ x : Unit, e = .returned (.bool r) ∧ St B (Cl p0 99 [.pointer (some ⟨p0a, 0, none⟩), .slice A0b q0b.length c0b] :: Cl p0a 89 [.pointer (some ⟨p0aa, 0, none⟩), .int .i64 o0a.1, .int .i64 o0a.2.1, .int .i64 o0a.2.2.1, .int .i64 o0a.2.2.2.1, .int .i64 o0a.2.2.2.2.1, .int .i64 o0a.2.2.2.2.2.1, .int .i64 o0a.2.2.2.2.2.2.1, .int .i64 o0a.2.2.2.2.2.2.2.1, .int .i64 o0a.2.2.2.2.2.2.2.2.1, .int .i64 o0a.2.2.2.2.2.2.2.2.2.1, .int .i64 o0a.2.2.2.2.2.2.2.2.2.2.1, .int .i64 o0a.2.2.2.2.2.2.2.2.2.2.2.1, .int .i64 o0a.2.2.2.2.2.2.2.2.2.2.2.2.1, .int .i64 o0a.2.2.2.2.2.2.2.2.2.2.2.2.2.1, .int .i64 o0a.2.2.2.2.2.2.2.2.2.2.2.2.2.2.1, .int .i64 o0a.2.2.2.2.2.2.2.2.2.2.2.2.2.2.2.1, .int .i64 o0a.2.2.2.2.2.2.2.2.2.2.2.2.2.2.2.2] :: Cl p0aa 115 [.pointer (some ⟨p0aaa, 0, none⟩), .nilIface, .int .i64 o0aa.1, .int .i64 o0aa.2.1, .nilIface, .int .i64 o0aa.2.2.1, .int .i64 o0aa.2.2.2, .map (some m0aah), .slice none 0 0, .slice none 0 0, .map (some m0aak)] :: Cl p0aaa 134 [.int .i64 o0aaa.1, .map (some m0aaab), .pointer (some ⟨p0aaac, 0, none⟩), .int .i64 o0aaa.2.1, .int .u64 o0aaa.2.2.1, .int .i64 o0aaa.2.2.2] :: Mp E64 m0aaab q0aaab :: Cl p0aaac 83 [.int .i64 o0aaac.1, .map (some m0aaacb), .slice A0aaacc q0aaacc.length c0aaacc, .bool o0aaac.2.1, .int .i64 o0aaac.2.2.1, .int .i64 o0aaac.2.2.2.1, .int .u64 o0aaac.2.2.2.2.1, .int .i64 o0aaac.2.2.2.2.2.1, .int .i64 o0aaac.2.2.2.2.2.2] :: Mp (Elt.slice E8) m0aaacb q0aaacb :: Bf (Elt.pair E64 (Elt.slice E8)) 158 A0aaacc c0aaacc q0aaacc :: Mp E64 m0aah q0aah :: Mp E64 m0aak q0aak :: Bf (Elt.pair (Elt.pair E64 (Elt.pair (Elt.slice E8) (Elt.slice E8))) EBool) 102 A0b c0b q0b :: hs) w' := by
 unfold view_right.impl at hr
 refine calls_T Try.func20 rfl rfl rfl hS ?_
 refine T.seq ?_
 refine T.region ?_
 refine T.assign .list rfl (wants0 rfl) rfl rfl ?_
 refine T.nil ?_
 refine T.then_normal ?_
 refine T.seq ?_
 refine T.region ?_
 refine T.move .list rfl (wants0 rfl) rfl rfl ?_
 refine T.ptrNe (pt := 99) .list rfl (wants0 rfl) rfl rfl rfl (by kernel_rfl) (.inr rfl) rfl ?_
 refine T.move .list rfl (wants0 rfl) rfl rfl ?_
 refine T.move .list rfl (wants1 rfl rfl rfl rfl) rfl rfl ?_
 refine T.bin .list rfl (wants1 rfl rfl rfl rfl) rfl rfl rfl rfl ?_
 refine T.pickT .list rfl (wants0 rfl) rfl rfl rfl rfl ?_
 refine T.move .list rfl (wants0 rfl) rfl rfl ?_
 refine T.bool (b := (decide ((0 : Int) ≤ a1))) (fun hb1 => ?_) (fun hb1 => ?_)
 ·replace hr := inv_posB hb1 hr
  refine T.move .list rfl (wants1 rfl rfl rfl hb1) rfl rfl ?_
  refine T.bin .list rfl (wants1 rfl rfl rfl hb1) rfl rfl rfl rfl ?_
  refine T.pickT .list rfl (wants0 rfl) rfl rfl hb1 rfl ?_
  refine T.assign .list rfl (wants0 rfl) rfl rfl ?_
  refine T.nil ?_
  refine T.then_normal ?_
  refine T.ret ?_
  obtain rfl := inv_some hr
  refine T.pick [0, 1, 2, 3, 4, 5, 6, 7, 8, 9, 10] 11 rfl rfl (Nat.le_add_left _ _) rfl ?_
  refine T.ret1 rfl rfl (fun w hS => ⟨(), rfl, hS⟩)
 ·replace hr := inv_negB hb1 hr
  refine T.leave .list (wantsNot rfl rfl rfl hb1) rfl ?_
  refine T.leave .list (wantsNot rfl rfl rfl hb1) rfl ?_
  refine T.pickF .list rfl (wants0 rfl) rfl rfl hb1 rfl ?_
  refine T.assign .list rfl (wants0 rfl) rfl rfl ?_
  refine T.nil ?_
  refine T.then_normal ?_
  refine T.ret ?_
  obtain rfl := inv_some hr
  refine T.pick [0, 1, 2, 3, 4, 5, 6, 7, 8, 9, 10] 11 rfl rfl (Nat.le_add_left _ _) rfl ?_
  refine T.ret1 rfl rfl (fun w hS => ⟨(), rfl, hS⟩)

noncomputable def view_Note.k2 (r1 : Int × Bool × Int) (q0b : List ((Int × (List UInt8) × (List UInt8)) × Bool)) (a2 : Int) (o0a : Int × Int × Int × Int × Int × Int × Int × Int × Int × Int × Int × Int × Int × Int × Int × Int × Int) (o0aa : Int × Int × Int × Int) (o0aaa : Int × Int × Int × Int) (q0aaab : List (Int × Int)) (o0aaac : Int × Bool × Int × Int × Int × Int × Int) (q0aaacb : List (Int × (List UInt8))) (q0aaacc : List (Int × (List UInt8))) (q0aah : List (Int × Int)) (q0aak : List (Int × Int)) (a1 : Int) (s2 : Bool) : Option (Int × (List ((Int × (List UInt8) × (List UInt8)) × Bool))) :=
  (if s2 = true then some (r1.2.2, q0b) else (wire_Uint.impl a2).bind fun r2 => (draft_Draft_Put.impl ((o0a.1, o0a.2.1, o0a.2.2.1, o0a.2.2.2.1, o0a.2.2.2.2.1, o0a.2.2.2.2.2.1, o0a.2.2.2.2.2.2.1, o0a.2.2.2.2.2.2.2.1, o0a.2.2.2.2.2.2.2.2.1, o0a.2.2.2.2.2.2.2.2.2.1, o0a.2.2.2.2.2.2.2.2.2.2.1, o0a.2.2.2.2.2.2.2.2.2.2.2.1, o0a.2.2.2.2.2.2.2.2.2.2.2.2.1, o0a.2.2.2.2.2.2.2.2.2.2.2.2.2.1, o0a.2.2.2.2.2.2.2.2.2.2.2.2.2.2.1, o0a.2.2.2.2.2.2.2.2.2.2.2.2.2.2.2.1, o0a.2.2.2.2.2.2.2.2.2.2.2.2.2.2.2.2)) ((o0aa.1, o0aa.2.1, o0aa.2.2.1, o0aa.2.2.2)) ((o0aaa.1, o0aaa.2.1, o0aaa.2.2.1, o0aaa.2.2.2)) q0aaab ((o0aaac.1, o0aaac.2.1, o0aaac.2.2.1, o0aaac.2.2.2.1, o0aaac.2.2.2.2.1, o0aaac.2.2.2.2.2.1, o0aaac.2.2.2.2.2.2)) q0aaacb q0aaacc q0aah q0aak q0b 6 (([(u8 (IntKind.u8.wrap a1))] : List UInt8)) r2).bind fun r3 => some (r3.1, r3.2))
noncomputable def view_Note.k1 (q0b : List ((Int × (List UInt8) × (List UInt8)) × Bool)) (o0a : Int × Int × Int × Int × Int × Int × Int × Int × Int × Int × Int × Int × Int × Int × Int × Int × Int) (o0aa : Int × Int × Int × Int) (o0aaa : Int × Int × Int × Int) (q0aaab : List (Int × Int)) (o0aaac : Int × Bool × Int × Int × Int × Int × Int) (q0aaacb : List (Int × (List UInt8))) (q0aaacc : List (Int × (List UInt8))) (q0aah : List (Int × Int)) (q0aak : List (Int × Int)) (a1 : Int) (a2 : Int) (s1 : Bool) : Option (Int × (List ((Int × (List UInt8) × (List UInt8)) × Bool))) :=
  (if s1 = true then some (1, q0b) else (view_notes_of.impl ((o0a.1, o0a.2.1, o0a.2.2.1, o0a.2.2.2.1, o0a.2.2.2.2.1, o0a.2.2.2.2.2.1, o0a.2.2.2.2.2.2.1, o0a.2.2.2.2.2.2.2.1, o0a.2.2.2.2.2.2.2.2.1, o0a.2.2.2.2.2.2.2.2.2.1, o0a.2.2.2.2.2.2.2.2.2.2.1, o0a.2.2.2.2.2.2.2.2.2.2.2.1, o0a.2.2.2.2.2.2.2.2.2.2.2.2.1, o0a.2.2.2.2.2.2.2.2.2.2.2.2.2.1, o0a.2.2.2.2.2.2.2.2.2.2.2.2.2.2.1, o0a.2.2.2.2.2.2.2.2.2.2.2.2.2.2.2.1, o0a.2.2.2.2.2.2.2.2.2.2.2.2.2.2.2.2)) ((o0aa.1, o0aa.2.1, o0aa.2.2.1, o0aa.2.2.2)) ((o0aaa.1, o0aaa.2.1, o0aaa.2.2.1, o0aaa.2.2.2)) q0aaab ((o0aaac.1, o0aaac.2.1, o0aaac.2.2.1, o0aaac.2.2.2.1, o0aaac.2.2.2.2.1, o0aaac.2.2.2.2.2.1, o0aaac.2.2.2.2.2.2)) q0aaacb q0aaacc q0aah q0aak q0b a1).bind fun r1 => (if ((decide (r1.2.2 = 0))) = true then (if r1.2.1 = true then view_Note.k2 r1 q0b a2 o0a o0aa o0aaa q0aaab o0aaac q0aaacb q0aaacc q0aah q0aak a1 (decide (a2 ≤ r1.1)) else view_Note.k2 r1 q0b a2 o0a o0aa o0aaa q0aaab o0aaac q0aaacb q0aaacc q0aah q0aak a1 false) else view_Note.k2 r1 q0b a2 o0a o0aa o0aaa q0aaab o0aaac q0aaacb q0aaacc q0aah q0aak a1 true))
noncomputable def view_Note.impl (o0a : Int × Int × Int × Int × Int × Int × Int × Int × Int × Int × Int × Int × Int × Int × Int × Int × Int) (o0aa : Int × Int × Int × Int) (o0aaa : Int × Int × Int × Int) (q0aaab : List (Int × Int)) (o0aaac : Int × Bool × Int × Int × Int × Int × Int) (q0aaacb : List (Int × (List UInt8))) (q0aaacc : List (Int × (List UInt8))) (q0aah : List (Int × Int)) (q0aak : List (Int × Int)) (q0b : List ((Int × (List UInt8) × (List UInt8)) × Bool)) (a1 : Int) (a2 : Int) : Option (Int × (List ((Int × (List UInt8) × (List UInt8)) × Bool))) :=
  (view_right.impl ((o0a.1, o0a.2.1, o0a.2.2.1, o0a.2.2.2.1, o0a.2.2.2.2.1, o0a.2.2.2.2.2.1, o0a.2.2.2.2.2.2.1, o0a.2.2.2.2.2.2.2.1, o0a.2.2.2.2.2.2.2.2.1, o0a.2.2.2.2.2.2.2.2.2.1, o0a.2.2.2.2.2.2.2.2.2.2.1, o0a.2.2.2.2.2.2.2.2.2.2.2.1, o0a.2.2.2.2.2.2.2.2.2.2.2.2.1, o0a.2.2.2.2.2.2.2.2.2.2.2.2.2.1, o0a.2.2.2.2.2.2.2.2.2.2.2.2.2.2.1, o0a.2.2.2.2.2.2.2.2.2.2.2.2.2.2.2.1, o0a.2.2.2.2.2.2.2.2.2.2.2.2.2.2.2.2)) ((o0aa.1, o0aa.2.1, o0aa.2.2.1, o0aa.2.2.2)) ((o0aaa.1, o0aaa.2.1, o0aaa.2.2.1, o0aaa.2.2.2)) q0aaab ((o0aaac.1, o0aaac.2.1, o0aaac.2.2.1, o0aaac.2.2.2.1, o0aaac.2.2.2.2.1, o0aaac.2.2.2.2.2.1, o0aaac.2.2.2.2.2.2)) q0aaacb q0aaacc q0aah q0aak q0b a1).bind fun r4 => (if r4 = true then (if ((decide (a2 < 0))) = true then view_Note.k1 q0b o0a o0aa o0aaa q0aaab o0aaac q0aaacb q0aaacc q0aah q0aak a1 a2 true else view_Note.k1 q0b o0a o0aa o0aaa q0aaab o0aaac q0aaacb q0aaacc q0aah q0aak a1 a2 (decide ((2147483647 : Int) < a2))) else view_Note.k1 q0b o0a o0aa o0aaa q0aaab o0aaac q0aaacb q0aaacc q0aah q0aak a1 a2 true)
set_option maxRecDepth 100000 in
set_option maxHeartbeats 4000000 in
theorem view_Note.c {B : World} {hs : List MP} {w : World} {p0 : Nat} {p0a : Nat} {o0a : Int × Int × Int × Int × Int × Int × Int × Int × Int × Int × Int × Int × Int × Int × Int × Int × Int} {p0aa : Nat} {o0aa : Int × Int × Int × Int} {p0aaa : Nat} {o0aaa : Int × Int × Int × Int} {m0aaab : Nat} {q0aaab : List (Int × Int)} {p0aaac : Nat} {o0aaac : Int × Bool × Int × Int × Int × Int × Int} {m0aaacb : Nat} {q0aaacb : List (Int × (List UInt8))} {c0aaacc : Nat} {A0aaacc : Option Addr} {q0aaacc : List (Int × (List UInt8))} {m0aah : Nat} {q0aah : List (Int × Int)} {m0aak : Nat} {q0aak : List (Int × Int)} {c0b : Nat} {A0b : Option Addr} {q0b : List ((Int × (List UInt8) × (List UInt8)) × Bool)} {a1 : Int} {a2 : Int} (hS : St B (Cl p0 99 [.pointer (some ⟨p0a, 0, none⟩), .slice A0b q0b.length c0b] :: Cl p0a 89 [.pointer (some ⟨p0aa, 0, none⟩), .int .i64 o0a.1, .int .i64 o0a.2.1, .int .i64 o0a.2.2.1, .int .i64 o0a.2.2.2.1, .int .i64 o0a.2.2.2.2.1, .int .i64 o0a.2.2.2.2.2.1, .int .i64 o0a.2.2.2.2.2.2.1, .int .i64 o0a.2.2.2.2.2.2.2.1, .int .i64 o0a.2.2.2.2.2.2.2.2.1, .int .i64 o0a.2.2.2.2.2.2.2.2.2.1, .int .i64 o0a.2.2.2.2.2.2.2.2.2.2.1, .int .i64 o0a.2.2.2.2.2.2.2.2.2.2.2.1, .int .i64 o0a.2.2.2.2.2.2.2.2.2.2.2.2.1, .int .i64 o0a.2.2.2.2.2.2.2.2.2.2.2.2.2.1, .int .i64 o0a.2.2.2.2.2.2.2.2.2.2.2.2.2.2.1, .int .i64 o0a.2.2.2.2.2.2.2.2.2.2.2.2.2.2.2.1, .int .i64 o0a.2.2.2.2.2.2.2.2.2.2.2.2.2.2.2.2] :: Cl p0aa 115 [.pointer (some ⟨p0aaa, 0, none⟩), .nilIface, .int .i64 o0aa.1, .int .i64 o0aa.2.1, .nilIface, .int .i64 o0aa.2.2.1, .int .i64 o0aa.2.2.2, .map (some m0aah), .slice none 0 0, .slice none 0 0, .map (some m0aak)] :: Cl p0aaa 134 [.int .i64 o0aaa.1, .map (some m0aaab), .pointer (some ⟨p0aaac, 0, none⟩), .int .i64 o0aaa.2.1, .int .u64 o0aaa.2.2.1, .int .i64 o0aaa.2.2.2] :: Mp E64 m0aaab q0aaab :: Cl p0aaac 83 [.int .i64 o0aaac.1, .map (some m0aaacb), .slice A0aaacc q0aaacc.length c0aaacc, .bool o0aaac.2.1, .int .i64 o0aaac.2.2.1, .int .i64 o0aaac.2.2.2.1, .int .u64 o0aaac.2.2.2.2.1, .int .i64 o0aaac.2.2.2.2.2.1, .int .i64 o0aaac.2.2.2.2.2.2] :: Mp (Elt.slice E8) m0aaacb q0aaacb :: Bf (Elt.pair E64 (Elt.slice E8)) 158 A0aaacc c0aaacc q0aaacc :: Mp E64 m0aah q0aah :: Mp E64 m0aak q0aak :: Bf (Elt.pair (Elt.pair E64 (Elt.pair (Elt.slice E8) (Elt.slice E8))) EBool) 102 A0b c0b q0b :: hs) w) {r : Int × (List ((Int × (List UInt8) × (List UInt8)) × Bool))} (hr : view_Note.impl o0a o0aa o0aaa q0aaab o0aaac q0aaacb q0aaacc q0aah q0aak q0b a1 a2 = some r) :
    Calls Try.prog 7 #[.pointer (some ⟨p0, 0, none⟩), .int .i64 a1, .int .i64 a2] w fun e w' => ∃ x : (Option Addr × Nat), e = .returned (.int .i64 r.1) ∧ St B (Cl p0 99 [.pointer (some ⟨p0a, 0, none⟩), .slice x.1 r.2.length x.2] :: Cl p0a 89 [.pointer (some ⟨p0aa, 0, none⟩), .int .i64 o0a.1, .int .i64 o0a.2.1, .int .i64 o0a.2.2.1, .int .i64 o0a.2.2.2.1, .int .i64 o0a.2.2.2.2.1, .int .i64 o0a.2.2.2.2.2.1, .int .i64 o0a.2.2.2.2.2.2.1, .int .i64 o0a.2.2.2.2.2.2.2.1, .int .i64 o0a.2.2.2.2.2.2.2.2.1, .int .i64 o0a.2.2.2.2.2.2.2.2.2.1, .int .i64 o0a.2.2.2.2.2.2.2.2.2.2.1, .int .i64 o0a.2.2.2.2.2.2.2.2.2.2.2.1, .int .i64 o0a.2.2.2.2.2.2.2.2.2.2.2.2.1, .int .i64 o0a.2.2.2.2.2.2.2.2.2.2.2.2.2.1, .int .i64 o0a.2.2.2.2.2.2.2.2.2.2.2.2.2.2.1, .int .i64 o0a.2.2.2.2.2.2.2.2.2.2.2.2.2.2.2.1, .int .i64 o0a.2.2.2.2.2.2.2.2.2.2.2.2.2.2.2.2] :: Cl p0aa 115 [.pointer (some ⟨p0aaa, 0, none⟩), .nilIface, .int .i64 o0aa.1, .int .i64 o0aa.2.1, .nilIface, .int .i64 o0aa.2.2.1, .int .i64 o0aa.2.2.2, .map (some m0aah), .slice none 0 0, .slice none 0 0, .map (some m0aak)] :: Cl p0aaa 134 [.int .i64 o0aaa.1, .map (some m0aaab), .pointer (some ⟨p0aaac, 0, none⟩), .int .i64 o0aaa.2.1, .int .u64 o0aaa.2.2.1, .int .i64 o0aaa.2.2.2] :: Mp E64 m0aaab q0aaab :: Cl p0aaac 83 [.int .i64 o0aaac.1, .map (some m0aaacb), .slice A0aaacc q0aaacc.length c0aaacc, .bool o0aaac.2.1, .int .i64 o0aaac.2.2.1, .int .i64 o0aaac.2.2.2.1, .int .u64 o0aaac.2.2.2.2.1, .int .i64 o0aaac.2.2.2.2.2.1, .int .i64 o0aaac.2.2.2.2.2.2] :: Mp (Elt.slice E8) m0aaacb q0aaacb :: Bf (Elt.pair E64 (Elt.slice E8)) 158 A0aaacc c0aaacc q0aaacc :: Mp E64 m0aah q0aah :: Mp E64 m0aak q0aak :: Bf (Elt.pair (Elt.pair E64 (Elt.pair (Elt.slice E8) (Elt.slice E8))) EBool) 102 x.1 x.2 r.2 :: hs) w' := by
 unfold view_Note.impl at hr
 refine calls_T Try.func7 rfl rfl rfl hS ?_
 refine T.seq ?_
 refine T.region ?_
 refine T.assign .list rfl (wants0 rfl) rfl rfl ?_
 refine T.nil ?_
 refine T.then_normal ?_
 refine T.seq ?_
 refine T.seqJ (fun (s1 : Bool) (x1 : Unit) => [(0, .pointer (some ⟨p0, 0, none⟩)), (1, .int .i64 a1), (2, .int .i64 a2), (21, .bool s1)]) (fun s1 x1 => Cl p0 99 [.pointer (some ⟨p0a, 0, none⟩), .slice A0b q0b.length c0b] :: Cl p0a 89 [.pointer (some ⟨p0aa, 0, none⟩), .int .i64 o0a.1, .int .i64 o0a.2.1, .int .i64 o0a.2.2.1, .int .i64 o0a.2.2.2.1, .int .i64 o0a.2.2.2.2.1, .int .i64 o0a.2.2.2.2.2.1, .int .i64 o0a.2.2.2.2.2.2.1, .int .i64 o0a.2.2.2.2.2.2.2.1, .int .i64 o0a.2.2.2.2.2.2.2.2.1, .int .i64 o0a.2.2.2.2.2.2.2.2.2.1, .int .i64 o0a.2.2.2.2.2.2.2.2.2.2.1, .int .i64 o0a.2.2.2.2.2.2.2.2.2.2.2.1, .int .i64 o0a.2.2.2.2.2.2.2.2.2.2.2.2.1, .int .i64 o0a.2.2.2.2.2.2.2.2.2.2.2.2.2.1, .int .i64 o0a.2.2.2.2.2.2.2.2.2.2.2.2.2.2.1, .int .i64 o0a.2.2.2.2.2.2.2.2.2.2.2.2.2.2.2.1, .int .i64 o0a.2.2.2.2.2.2.2.2.2.2.2.2.2.2.2.2] :: Cl p0aa 115 [.pointer (some ⟨p0aaa, 0, none⟩), .nilIface, .int .i64 o0aa.1, .int .i64 o0aa.2.1, .nilIface, .int .i64 o0aa.2.2.1, .int .i64 o0aa.2.2.2, .map (some m0aah), .slice none 0 0, .slice none 0 0, .map (some m0aak)] :: Cl p0aaa 134 [.int .i64 o0aaa.1, .map (some m0aaab), .pointer (some ⟨p0aaac, 0, none⟩), .int .i64 o0aaa.2.1, .int .u64 o0aaa.2.2.1, .int .i64 o0aaa.2.2.2] :: Mp E64 m0aaab q0aaab :: Cl p0aaac 83 [.int .i64 o0aaac.1, .map (some m0aaacb), .slice A0aaacc q0aaacc.length c0aaacc, .bool o0aaac.2.1, .int .i64 o0aaac.2.2.1, .int .i64 o0aaac.2.2.2.1, .int .u64 o0aaac.2.2.2.2.1, .int .i64 o0aaac.2.2.2.2.2.1, .int .i64 o0aaac.2.2.2.2.2.2] :: Mp (Elt.slice E8) m0aaacb q0aaacb :: Bf (Elt.pair E64 (Elt.slice E8)) 158 A0aaacc c0aaacc q0aaacc :: Mp E64 m0aah q0aah :: Mp E64 m0aak q0aak :: Bf (Elt.pair (Elt.pair E64 (Elt.pair (Elt.slice E8) (Elt.slice E8))) EBool) 102 A0b c0b q0b :: hs) (fun s1 => view_Note.k1 q0b o0a o0aa o0aaa q0aaab o0aaac q0aaacb q0aaacc q0aah q0aak a1 a2 s1 = some r) (fun s1 x1 hk1 => ?_) (fun J1 => ?_)
 ·unfold view_Note.k1 at hk1
  refine T.cond rfl (fun hb1 => ?_) (fun hb1 => ?_)
  ·replace hk1 := inv_posB hb1 hk1
   refine T.seq ?_
   refine T.region ?_
   refine T.assign .list rfl (wants0 rfl) rfl rfl ?_
   refine T.nil ?_
   refine T.then_normal ?_
   refine T.ret ?_
   refine T.then_ret ?_
   obtain rfl := inv_some hk1
   refine T.pick [0, 1, 2, 3, 4, 5, 6, 7, 8, 9, 10] 11 rfl rfl (Nat.le_add_left _ _) rfl ?_
   refine T.ret1 rfl rfl (fun w hS => ⟨(A0b, c0b), rfl, hS⟩)
  ·replace hk1 := inv_negB hb1 hk1
   refine T.skip ?_
   refine T.then_normal ?_
   refine T.seq ?_
   refine T.region ?_
   refine T.move .list rfl (wants0 rfl) rfl rfl ?_
   refine T.build .list (vals := [(0, .pointer (some ⟨p0, 0, none⟩))]) (cells := #[.pointer (some ⟨p0, 0, none⟩)]) rfl (wants0 rfl) rfl rfl (run_buildStruct (sizes := [1]) (by kernel_rfl) (by kernel_rfl)) ?_
   refine T.move .list rfl (wants0 rfl) rfl rfl ?_
   refine T.pick [0, 1, 2, 3, 4, 5, 6, 7, 8, 9, 10] 11 rfl rfl (Nat.le_add_left _ _) (hs' := Cl p0 99 [.pointer (some ⟨p0a, 0, none⟩), .slice A0b q0b.length c0b] :: Cl p0a 89 [.pointer (some ⟨p0aa, 0, none⟩), .int .i64 o0a.1, .int .i64 o0a.2.1, .int .i64 o0a.2.2.1, .int .i64 o0a.2.2.2.1, .int .i64 o0a.2.2.2.2.1, .int .i64 o0a.2.2.2.2.2.1, .int .i64 o0a.2.2.2.2.2.2.1, .int .i64 o0a.2.2.2.2.2.2.2.1, .int .i64 o0a.2.2.2.2.2.2.2.2.1, .int .i64 o0a.2.2.2.2.2.2.2.2.2.1, .int .i64 o0a.2.2.2.2.2.2.2.2.2.2.1, .int .i64 o0a.2.2.2.2.2.2.2.2.2.2.2.1, .int .i64 o0a.2.2.2.2.2.2.2.2.2.2.2.2.1, .int .i64 o0a.2.2.2.2.2.2.2.2.2.2.2.2.2.1, .int .i64 o0a.2.2.2.2.2.2.2.2.2.2.2.2.2.2.1, .int .i64 o0a.2.2.2.2.2.2.2.2.2.2.2.2.2.2.2.1, .int .i64 o0a.2.2.2.2.2.2.2.2.2.2.2.2.2.2.2.2] :: Cl p0aa 115 [.pointer (some ⟨p0aaa, 0, none⟩), .nilIface, .int .i64 o0aa.1, .int .i64 o0aa.2.1, .nilIface, .int .i64 o0aa.2.2.1, .int .i64 o0aa.2.2.2, .map (some m0aah), .slice none 0 0, .slice none 0 0, .map (some m0aak)] :: Cl p0aaa 134 [.int .i64 o0aaa.1, .map (some m0aaab), .pointer (some ⟨p0aaac, 0, none⟩), .int .i64 o0aaa.2.1, .int .u64 o0aaa.2.2.1, .int .i64 o0aaa.2.2.2] :: Mp E64 m0aaab q0aaab :: Cl p0aaac 83 [.int .i64 o0aaac.1, .map (some m0aaacb), .slice A0aaacc q0aaacc.length c0aaacc, .bool o0aaac.2.1, .int .i64 o0aaac.2.2.1, .int .i64 o0aaac.2.2.2.1, .int .u64 o0aaac.2.2.2.2.1, .int .i64 o0aaac.2.2.2.2.2.1, .int .i64 o0aaac.2.2.2.2.2.2] :: Mp (Elt.slice E8) m0aaacb q0aaacb :: Bf (Elt.pair E64 (Elt.slice E8)) 158 A0aaacc c0aaacc q0aaacc :: Mp E64 m0aah q0aah :: Mp E64 m0aak q0aak :: Bf (Elt.pair (Elt.pair E64 (Elt.pair (Elt.slice E8) (Elt.slice E8))) EBool) 102 A0b c0b q0b :: hs) rfl ?_
   obtain ⟨r1, hg1, hk1⟩ := inv_bind hk1
   refine T.call .list (wants0 rfl) rfl (run_callF (vs := [_, _]) rfl Try.func21 rfl (by decide) rfl) (fun w hS => view_notes_of.c hS (o0s0a := (o0a.1, o0a.2.1, o0a.2.2.1, o0a.2.2.2.1, o0a.2.2.2.2.1, o0a.2.2.2.2.2.1, o0a.2.2.2.2.2.2.1, o0a.2.2.2.2.2.2.2.1, o0a.2.2.2.2.2.2.2.2.1, o0a.2.2.2.2.2.2.2.2.2.1, o0a.2.2.2.2.2.2.2.2.2.2.1, o0a.2.2.2.2.2.2.2.2.2.2.2.1, o0a.2.2.2.2.2.2.2.2.2.2.2.2.1, o0a.2.2.2.2.2.2.2.2.2.2.2.2.2.1, o0a.2.2.2.2.2.2.2.2.2.2.2.2.2.2.1, o0a.2.2.2.2.2.2.2.2.2.2.2.2.2.2.2.1, o0a.2.2.2.2.2.2.2.2.2.2.2.2.2.2.2.2)) (o0s0aa := (o0aa.1, o0aa.2.1, o0aa.2.2.1, o0aa.2.2.2)) (o0s0aaa := (o0aaa.1, o0aaa.2.1, o0aaa.2.2.1, o0aaa.2.2.2)) (q0s0aaab := q0aaab) (o0s0aaac := (o0aaac.1, o0aaac.2.1, o0aaac.2.2.1, o0aaac.2.2.2.1, o0aaac.2.2.2.2.1, o0aaac.2.2.2.2.2.1, o0aaac.2.2.2.2.2.2)) (q0s0aaacb := q0aaacb) (q0s0aaacc := q0aaacc) (q0s0aah := q0aah) (q0s0aak := q0aak) (q0s0b := q0b)  hg1) (fun x2 => ?_)
   refine T.move .list rfl (wants0 rfl) rfl rfl ?_
   refine T.extract .list rfl (wants0 rfl) rfl rfl rfl ?_
   refine T.extract .list rfl (wants0 rfl) rfl rfl rfl ?_
   refine T.extract .list rfl (wants0 rfl) rfl rfl rfl ?_
   refine T.assign .list rfl (wants0 rfl) rfl rfl ?_
   refine T.assign .list rfl (wants0 rfl) rfl rfl ?_
   refine T.assign .list rfl (wants0 rfl) rfl rfl ?_
   refine T.nil ?_
   refine T.then_normal ?_
   refine T.seq ?_
   refine T.seqJ (fun (s2 : Bool) (x3 : Unit) => [(0, .pointer (some ⟨p0, 0, none⟩)), (1, .int .i64 a1), (2, .int .i64 a2), (9, .int .i64 r1.2.2), (39, .bool s2)]) (fun s2 x3 => Cl p0 99 [.pointer (some ⟨p0a, 0, none⟩), .slice A0b q0b.length c0b] :: Cl p0a 89 [.pointer (some ⟨p0aa, 0, none⟩), .int .i64 o0a.1, .int .i64 o0a.2.1, .int .i64 o0a.2.2.1, .int .i64 o0a.2.2.2.1, .int .i64 o0a.2.2.2.2.1, .int .i64 o0a.2.2.2.2.2.1, .int .i64 o0a.2.2.2.2.2.2.1, .int .i64 o0a.2.2.2.2.2.2.2.1, .int .i64 o0a.2.2.2.2.2.2.2.2.1, .int .i64 o0a.2.2.2.2.2.2.2.2.2.1, .int .i64 o0a.2.2.2.2.2.2.2.2.2.2.1, .int .i64 o0a.2.2.2.2.2.2.2.2.2.2.2.1, .int .i64 o0a.2.2.2.2.2.2.2.2.2.2.2.2.1, .int .i64 o0a.2.2.2.2.2.2.2.2.2.2.2.2.2.1, .int .i64 o0a.2.2.2.2.2.2.2.2.2.2.2.2.2.2.1, .int .i64 o0a.2.2.2.2.2.2.2.2.2.2.2.2.2.2.2.1, .int .i64 o0a.2.2.2.2.2.2.2.2.2.2.2.2.2.2.2.2] :: Cl p0aa 115 [.pointer (some ⟨p0aaa, 0, none⟩), .nilIface, .int .i64 o0aa.1, .int .i64 o0aa.2.1, .nilIface, .int .i64 o0aa.2.2.1, .int .i64 o0aa.2.2.2, .map (some m0aah), .slice none 0 0, .slice none 0 0, .map (some m0aak)] :: Cl p0aaa 134 [.int .i64 o0aaa.1, .map (some m0aaab), .pointer (some ⟨p0aaac, 0, none⟩), .int .i64 o0aaa.2.1, .int .u64 o0aaa.2.2.1, .int .i64 o0aaa.2.2.2] :: Mp E64 m0aaab q0aaab :: Cl p0aaac 83 [.int .i64 o0aaac.1, .map (some m0aaacb), .slice A0aaacc q0aaacc.length c0aaacc, .bool o0aaac.2.1, .int .i64 o0aaac.2.2.1, .int .i64 o0aaac.2.2.2.1, .int .u64 o0aaac.2.2.2.2.1, .int .i64 o0aaac.2.2.2.2.2.1, .int .i64 o0aaac.2.2.2.2.2.2] :: Mp (Elt.slice E8) m0aaacb q0aaacb :: Bf (Elt.pair E64 (Elt.slice E8)) 158 A0aaacc c0aaacc q0aaacc :: Mp E64 m0aah q0aah :: Mp E64 m0aak q0aak :: Bf (Elt.pair (Elt.pair E64 (Elt.pair (Elt.slice E8) (Elt.slice E8))) EBool) 102 A0b c0b q0b :: hs) (fun s2 => view_Note.k2 r1 q0b a2 o0a o0aa o0aaa q0aaab o0aaac q0aaacb q0aaacc q0aah q0aak a1 s2 = some r) (fun s2 x3 hk2 => ?_) (fun J2 => ?_)
   ·unfold view_Note.k2 at hk2
    refine T.cond rfl (fun hb2 => ?_) (fun hb2 => ?_)
    ·replace hk2 := inv_posB hb2 hk2
     refine T.seq ?_
     refine T.region ?_
     refine T.move .list rfl (wants0 rfl) rfl rfl ?_
     refine T.assign .list rfl (wants0 rfl) rfl rfl ?_
     refine T.nil ?_
     refine T.then_normal ?_
     refine T.ret ?_
     refine T.then_ret ?_
     obtain rfl := inv_some hk2
     refine T.pick [0, 1, 2, 3, 4, 5, 6, 7, 8, 9, 10] 11 rfl rfl (Nat.le_add_left _ _) rfl ?_
     refine T.ret1 rfl rfl (fun w hS => ⟨(A0b, c0b), rfl, hS⟩)
    ·replace hk2 := inv_negB hb2 hk2
     refine T.skip ?_
     refine T.then_normal ?_
     refine T.seq ?_
     refine T.region ?_
     refine T.move .list rfl (wants0 rfl) rfl rfl ?_
     refine T.move .list rfl (wants0 rfl) rfl rfl ?_
     refine T.conv .list rfl (wants0 rfl) rfl rfl rfl ?_
     refine T.lit (E := E8) .list (vals := [(0, .int .u8 (IntKind.u8.wrap a1))]) (cells := #[.int .u8 (IntKind.u8.wrap a1)]) rfl (wants0 rfl) rfl rfl rfl rfl rfl (by kernel_rfl) ([(u8 (IntKind.u8.wrap a1))] : List UInt8) rfl (fun _ _ _ _ _ => (Encs.c1 (enc := b8) (h1 := fun _ => rfl) (b8_wrap _) rfl)) (fun b1 => ?_)
     refine T.move .list rfl (wants0 rfl) rfl rfl ?_
     obtain ⟨r2, hg2, hk2⟩ := inv_bind hk2
     refine T.call .list (wants0 rfl) rfl (run_callF (vs := [_]) rfl Try.func23 rfl (by decide) rfl) (fun w hS => wire_Uint.c hS  hg2) (fun x4 => ?_)
     refine T.freeze 1 rfl rfl rfl ?_
     refine T.freeze 0 rfl rfl rfl ?_
     refine T.pick [2, 3, 4, 5, 6, 7, 8, 9, 10, 11, 12, 0, 1] 13 rfl rfl (Nat.le_add_left _ _) (hs' := Cl p0 99 [.pointer (some ⟨p0a, 0, none⟩), .slice A0b q0b.length c0b] :: Cl p0a 89 [.pointer (some ⟨p0aa, 0, none⟩), .int .i64 o0a.1, .int .i64 o0a.2.1, .int .i64 o0a.2.2.1, .int .i64 o0a.2.2.2.1, .int .i64 o0a.2.2.2.2.1, .int .i64 o0a.2.2.2.2.2.1, .int .i64 o0a.2.2.2.2.2.2.1, .int .i64 o0a.2.2.2.2.2.2.2.1, .int .i64 o0a.2.2.2.2.2.2.2.2.1, .int .i64 o0a.2.2.2.2.2.2.2.2.2.1, .int .i64 o0a.2.2.2.2.2.2.2.2.2.2.1, .int .i64 o0a.2.2.2.2.2.2.2.2.2.2.2.1, .int .i64 o0a.2.2.2.2.2.2.2.2.2.2.2.2.1, .int .i64 o0a.2.2.2.2.2.2.2.2.2.2.2.2.2.1, .int .i64 o0a.2.2.2.2.2.2.2.2.2.2.2.2.2.2.1, .int .i64 o0a.2.2.2.2.2.2.2.2.2.2.2.2.2.2.2.1, .int .i64 o0a.2.2.2.2.2.2.2.2.2.2.2.2.2.2.2.2] :: Cl p0aa 115 [.pointer (some ⟨p0aaa, 0, none⟩), .nilIface, .int .i64 o0aa.1, .int .i64 o0aa.2.1, .nilIface, .int .i64 o0aa.2.2.1, .int .i64 o0aa.2.2.2, .map (some m0aah), .slice none 0 0, .slice none 0 0, .map (some m0aak)] :: Cl p0aaa 134 [.int .i64 o0aaa.1, .map (some m0aaab), .pointer (some ⟨p0aaac, 0, none⟩), .int .i64 o0aaa.2.1, .int .u64 o0aaa.2.2.1, .int .i64 o0aaa.2.2.2] :: Mp E64 m0aaab q0aaab :: Cl p0aaac 83 [.int .i64 o0aaac.1, .map (some m0aaacb), .slice A0aaacc q0aaacc.length c0aaacc, .bool o0aaac.2.1, .int .i64 o0aaac.2.2.1, .int .i64 o0aaac.2.2.2.1, .int .u64 o0aaac.2.2.2.2.1, .int .i64 o0aaac.2.2.2.2.2.1, .int .i64 o0aaac.2.2.2.2.2.2] :: Mp (Elt.slice E8) m0aaacb q0aaacb :: Bf (Elt.pair E64 (Elt.slice E8)) 158 A0aaacc c0aaacc q0aaacc :: Mp E64 m0aah q0aah :: Mp E64 m0aak q0aak :: Bf (Elt.pair (Elt.pair E64 (Elt.pair (Elt.slice E8) (Elt.slice E8))) EBool) 102 A0b c0b q0b :: Ro E8 x4.1 x4.2 r2 :: Ro E8 (some ⟨b1, 0, none⟩) 1 (([(u8 (IntKind.u8.wrap a1))] : List UInt8)) :: hs) rfl ?_
     obtain ⟨r3, hg3, hk2⟩ := inv_bind hk2
     refine T.call .list (wants0 rfl) rfl (run_callF (vs := [_, _, _, _]) rfl Try.func22 rfl (by decide) rfl) (fun w hS => draft_Draft_Put.c hS (i2 := 12) (i3 := 11) (o0a := (o0a.1, o0a.2.1, o0a.2.2.1, o0a.2.2.2.1, o0a.2.2.2.2.1, o0a.2.2.2.2.2.1, o0a.2.2.2.2.2.2.1, o0a.2.2.2.2.2.2.2.1, o0a.2.2.2.2.2.2.2.2.1, o0a.2.2.2.2.2.2.2.2.2.1, o0a.2.2.2.2.2.2.2.2.2.2.1, o0a.2.2.2.2.2.2.2.2.2.2.2.1, o0a.2.2.2.2.2.2.2.2.2.2.2.2.1, o0a.2.2.2.2.2.2.2.2.2.2.2.2.2.1, o0a.2.2.2.2.2.2.2.2.2.2.2.2.2.2.1, o0a.2.2.2.2.2.2.2.2.2.2.2.2.2.2.2.1, o0a.2.2.2.2.2.2.2.2.2.2.2.2.2.2.2.2)) (o0aa := (o0aa.1, o0aa.2.1, o0aa.2.2.1, o0aa.2.2.2)) (o0aaa := (o0aaa.1, o0aaa.2.1, o0aaa.2.2.1, o0aaa.2.2.2)) (q0aaab := q0aaab) (o0aaac := (o0aaac.1, o0aaac.2.1, o0aaac.2.2.1, o0aaac.2.2.2.1, o0aaac.2.2.2.2.1, o0aaac.2.2.2.2.2.1, o0aaac.2.2.2.2.2.2)) (q0aaacb := q0aaacb) (q0aaacc := q0aaacc) (q0aah := q0aah) (q0aak := q0aak) (q0b := q0b) rfl rfl hg3) (fun x5 => ?_)
     refine T.assign .list rfl (wants0 rfl) rfl rfl ?_
     refine T.nil ?_
     refine T.then_normal ?_
     refine T.ret ?_
     obtain rfl := inv_some hk2
     refine T.pick [0, 1, 2, 3, 4, 5, 6, 7, 8, 9, 10] 13 rfl rfl (Nat.le_add_left _ _) rfl ?_
     refine T.ret1 rfl rfl (fun w hS => ⟨(x5.1, x5.2), rfl, hS⟩)
   ·refine T.region ?_
    refine T.move .list rfl (wants0 rfl) rfl rfl ?_
    refine T.bin .list rfl (wants0 rfl) rfl rfl rfl rfl ?_
    refine T.move .list rfl (wants0 rfl) rfl rfl ?_
    refine T.bool (b := (decide (r1.2.2 = 0))) (fun hb3 => ?_) (fun hb3 => ?_)
    ·replace hk1 := inv_posB hb3 hk1
     refine T.move .list rfl (wants1 rfl rfl rfl (not_t hb3)) rfl rfl ?_
     refine T.move .list rfl (wants1 rfl rfl rfl (not_t hb3)) rfl rfl ?_
     refine T.bool (b := r1.2.1) (fun hb4 => ?_) (fun hb4 => ?_)
     ·replace hk1 := inv_posB hb4 hk1
      refine T.move .list rfl (wants1 rfl rfl rfl hb4) rfl rfl ?_
      refine T.move .list rfl (wants1 rfl rfl rfl hb4) rfl rfl ?_
      refine T.bin .list rfl (wants1 rfl rfl rfl hb4) rfl rfl rfl rfl ?_
      refine T.pickT .list rfl (wants1 rfl rfl rfl (not_t hb3)) rfl rfl hb4 rfl ?_
      refine T.pickF .list rfl (wants0 rfl) rfl rfl (not_t hb3) rfl ?_
      refine T.nil ?_
      refine T.then_normal ?_
      exact T.le (EnvLe.cons rfl (EnvLe.cons rfl (EnvLe.cons rfl (EnvLe.cons rfl (EnvLe.cons rfl EnvLe.nil))))) (T.pick [0, 1, 2, 3, 4, 5, 6, 7, 8, 9, 10] 11 rfl rfl (Nat.le_add_left _ _) rfl (J2 (decide (a2 ≤ r1.1)) () hk1))
     ·replace hk1 := inv_negB hb4 hk1
      refine T.leave .list (wantsNot rfl rfl rfl hb4) rfl ?_
      refine T.leave .list (wantsNot rfl rfl rfl hb4) rfl ?_
      refine T.leave .list (wantsNot rfl rfl rfl hb4) rfl ?_
      refine T.pickF .list rfl (wants1 rfl rfl rfl (not_t hb3)) rfl rfl hb4 rfl ?_
      refine T.pickF .list rfl (wants0 rfl) rfl rfl (not_t hb3) rfl ?_
      refine T.nil ?_
      refine T.then_normal ?_
      exact T.le (EnvLe.cons rfl (EnvLe.cons rfl (EnvLe.cons rfl (EnvLe.cons rfl (EnvLe.cons rfl EnvLe.nil))))) (T.pick [0, 1, 2, 3, 4, 5, 6, 7, 8, 9, 10] 11 rfl rfl (Nat.le_add_left _ _) rfl (J2 false () hk1))
    ·replace hk1 := inv_negB hb3 hk1
     refine T.leave .list (wantsNot rfl rfl rfl (not_f hb3)) rfl ?_
     refine T.leave .list (wantsNot rfl rfl rfl (not_f hb3)) rfl ?_
     refine T.leave .list (wantsUndef rfl rfl rfl) rfl ?_
     refine T.leave .list (wantsUndef rfl rfl rfl) rfl ?_
     refine T.leave .list (wantsUndef rfl rfl rfl) rfl ?_
     refine T.leave .list (wantsNot rfl rfl rfl (not_f hb3)) rfl ?_
     refine T.pickT .list rfl (wants0 rfl) rfl rfl (not_f hb3) rfl ?_
     refine T.nil ?_
     refine T.then_normal ?_
     exact T.le (EnvLe.cons rfl (EnvLe.cons rfl (EnvLe.cons rfl (EnvLe.cons rfl (EnvLe.cons rfl EnvLe.nil))))) (T.pick [0, 1, 2, 3, 4, 5, 6, 7, 8, 9, 10] 11 rfl rfl (Nat.le_add_left _ _) rfl (J2 true () hk1))
 ·refine T.region ?_
  refine T.move .list rfl (wants0 rfl) rfl rfl ?_
  refine T.move .list rfl (wants0 rfl) rfl rfl ?_
  refine T.pick [0, 1, 2, 3, 4, 5, 6, 7, 8, 9, 10] 11 rfl rfl (Nat.le_add_left _ _) (hs' := Cl p0 99 [.pointer (some ⟨p0a, 0, none⟩), .slice A0b q0b.length c0b] :: Cl p0a 89 [.pointer (some ⟨p0aa, 0, none⟩), .int .i64 o0a.1, .int .i64 o0a.2.1, .int .i64 o0a.2.2.1, .int .i64 o0a.2.2.2.1, .int .i64 o0a.2.2.2.2.1, .int .i64 o0a.2.2.2.2.2.1, .int .i64 o0a.2.2.2.2.2.2.1, .int .i64 o0a.2.2.2.2.2.2.2.1, .int .i64 o0a.2.2.2.2.2.2.2.2.1, .int .i64 o0a.2.2.2.2.2.2.2.2.2.1, .int .i64 o0a.2.2.2.2.2.2.2.2.2.2.1, .int .i64 o0a.2.2.2.2.2.2.2.2.2.2.2.1, .int .i64 o0a.2.2.2.2.2.2.2.2.2.2.2.2.1, .int .i64 o0a.2.2.2.2.2.2.2.2.2.2.2.2.2.1, .int .i64 o0a.2.2.2.2.2.2.2.2.2.2.2.2.2.2.1, .int .i64 o0a.2.2.2.2.2.2.2.2.2.2.2.2.2.2.2.1, .int .i64 o0a.2.2.2.2.2.2.2.2.2.2.2.2.2.2.2.2] :: Cl p0aa 115 [.pointer (some ⟨p0aaa, 0, none⟩), .nilIface, .int .i64 o0aa.1, .int .i64 o0aa.2.1, .nilIface, .int .i64 o0aa.2.2.1, .int .i64 o0aa.2.2.2, .map (some m0aah), .slice none 0 0, .slice none 0 0, .map (some m0aak)] :: Cl p0aaa 134 [.int .i64 o0aaa.1, .map (some m0aaab), .pointer (some ⟨p0aaac, 0, none⟩), .int .i64 o0aaa.2.1, .int .u64 o0aaa.2.2.1, .int .i64 o0aaa.2.2.2] :: Mp E64 m0aaab q0aaab :: Cl p0aaac 83 [.int .i64 o0aaac.1, .map (some m0aaacb), .slice A0aaacc q0aaacc.length c0aaacc, .bool o0aaac.2.1, .int .i64 o0aaac.2.2.1, .int .i64 o0aaac.2.2.2.1, .int .u64 o0aaac.2.2.2.2.1, .int .i64 o0aaac.2.2.2.2.2.1, .int .i64 o0aaac.2.2.2.2.2.2] :: Mp (Elt.slice E8) m0aaacb q0aaacb :: Bf (Elt.pair E64 (Elt.slice E8)) 158 A0aaacc c0aaacc q0aaacc :: Mp E64 m0aah q0aah :: Mp E64 m0aak q0aak :: Bf (Elt.pair (Elt.pair E64 (Elt.pair (Elt.slice E8) (Elt.slice E8))) EBool) 102 A0b c0b q0b :: hs) rfl ?_
  obtain ⟨r4, hg4, hr⟩ := inv_bind hr
  refine T.call .list (wants0 rfl) rfl (run_callF (vs := [_, _]) rfl Try.func20 rfl (by decide) rfl) (fun w hS => view_right.c hS (o0a := (o0a.1, o0a.2.1, o0a.2.2.1, o0a.2.2.2.1, o0a.2.2.2.2.1, o0a.2.2.2.2.2.1, o0a.2.2.2.2.2.2.1, o0a.2.2.2.2.2.2.2.1, o0a.2.2.2.2.2.2.2.2.1, o0a.2.2.2.2.2.2.2.2.2.1, o0a.2.2.2.2.2.2.2.2.2.2.1, o0a.2.2.2.2.2.2.2.2.2.2.2.1, o0a.2.2.2.2.2.2.2.2.2.2.2.2.1, o0a.2.2.2.2.2.2.2.2.2.2.2.2.2.1, o0a.2.2.2.2.2.2.2.2.2.2.2.2.2.2.1, o0a.2.2.2.2.2.2.2.2.2.2.2.2.2.2.2.1, o0a.2.2.2.2.2.2.2.2.2.2.2.2.2.2.2.2)) (o0aa := (o0aa.1, o0aa.2.1, o0aa.2.2.1, o0aa.2.2.2)) (o0aaa := (o0aaa.1, o0aaa.2.1, o0aaa.2.2.1, o0aaa.2.2.2)) (q0aaab := q0aaab) (o0aaac := (o0aaac.1, o0aaac.2.1, o0aaac.2.2.1, o0aaac.2.2.2.1, o0aaac.2.2.2.2.1, o0aaac.2.2.2.2.2.1, o0aaac.2.2.2.2.2.2)) (q0aaacb := q0aaacb) (q0aaacc := q0aaacc) (q0aah := q0aah) (q0aak := q0aak) (q0b := q0b)  hg4) (fun x6 => ?_)
  refine T.not .list rfl (wants0 rfl) rfl rfl ?_
  refine T.move .list rfl (wants0 rfl) rfl rfl ?_
  refine T.bool (b := r4) (fun hb5 => ?_) (fun hb5 => ?_)
  ·replace hr := inv_posB hb5 hr
   refine T.move .list rfl (wants1 rfl rfl rfl (not_t hb5)) rfl rfl ?_
   refine T.bin .list rfl (wants1 rfl rfl rfl (not_t hb5)) rfl rfl rfl rfl ?_
   refine T.pickF .list rfl (wants0 rfl) rfl rfl (not_t hb5) rfl ?_
   refine T.move .list rfl (wants0 rfl) rfl rfl ?_
   refine T.bool (b := (decide (a2 < 0))) (fun hb6 => ?_) (fun hb6 => ?_)
   ·replace hr := inv_posB hb6 hr
    refine T.leave .list (wantsNot rfl rfl rfl hb6) rfl ?_
    refine T.leave .list (wantsNot rfl rfl rfl hb6) rfl ?_
    refine T.pickT .list rfl (wants0 rfl) rfl rfl hb6 rfl ?_
    refine T.nil ?_
    refine T.then_normal ?_
    exact T.le (EnvLe.cons rfl (EnvLe.cons rfl (EnvLe.cons rfl (EnvLe.cons rfl EnvLe.nil)))) (T.pick [0, 1, 2, 3, 4, 5, 6, 7, 8, 9, 10] 11 rfl rfl (Nat.le_add_left _ _) rfl (J1 true () hr))
   ·replace hr := inv_negB hb6 hr
    refine T.move .list rfl (wants1 rfl rfl rfl hb6) rfl rfl ?_
    refine T.bin .list rfl (wants1 rfl rfl rfl hb6) rfl rfl rfl rfl ?_
    refine T.pickF .list rfl (wants0 rfl) rfl rfl hb6 rfl ?_
    refine T.nil ?_
    refine T.then_normal ?_
    exact T.le (EnvLe.cons rfl (EnvLe.cons rfl (EnvLe.cons rfl (EnvLe.cons rfl EnvLe.nil)))) (T.pick [0, 1, 2, 3, 4, 5, 6, 7, 8, 9, 10] 11 rfl rfl (Nat.le_add_left _ _) rfl (J1 (decide ((2147483647 : Int) < a2)) () hr))
  ·replace hr := inv_negB hb5 hr
   refine T.leave .list (wantsNot rfl rfl rfl (not_f hb5)) rfl ?_
   refine T.leave .list (wantsNot rfl rfl rfl (not_f hb5)) rfl ?_
   refine T.pickT .list rfl (wants0 rfl) rfl rfl (not_f hb5) rfl ?_
   refine T.move .list rfl (wants0 rfl) rfl rfl ?_
   refine T.leave .list (wantsNot rfl rfl rfl rfl) rfl ?_
   refine T.leave .list (wantsNot rfl rfl rfl rfl) rfl ?_
   refine T.pickT .list rfl (wants0 rfl) rfl rfl rfl rfl ?_
   refine T.nil ?_
   refine T.then_normal ?_
   exact T.le (EnvLe.cons rfl (EnvLe.cons rfl (EnvLe.cons rfl (EnvLe.cons rfl EnvLe.nil)))) (T.pick [0, 1, 2, 3, 4, 5, 6, 7, 8, 9, 10] 11 rfl rfl (Nat.le_add_left _ _) rfl (J1 true () hr))

noncomputable def view_Get.impl (o0a : Int × Int × Int × Int × Int × Int × Int × Int × Int × Int × Int × Int × Int × Int × Int × Int × Int) (o0aa : Int × Int × Int × Int) (o0aaa : Int × Int × Int × Int) (q0aaab : List (Int × Int)) (o0aaac : Int × Bool × Int × Int × Int × Int × Int) (q0aaacb : List (Int × (List UInt8))) (q0aaacc : List (Int × (List UInt8))) (q0aah : List (Int × Int)) (q0aak : List (Int × Int)) (q0b : List ((Int × (List UInt8) × (List UInt8)) × Bool)) (a1 : Int) : Option (Int × Bool × Int) :=
  (view_right.impl ((o0a.1, o0a.2.1, o0a.2.2.1, o0a.2.2.2.1, o0a.2.2.2.2.1, o0a.2.2.2.2.2.1, o0a.2.2.2.2.2.2.1, o0a.2.2.2.2.2.2.2.1, o0a.2.2.2.2.2.2.2.2.1, o0a.2.2.2.2.2.2.2.2.2.1, o0a.2.2.2.2.2.2.2.2.2.2.1, o0a.2.2.2.2.2.2.2.2.2.2.2.1, o0a.2.2.2.2.2.2.2.2.2.2.2.2.1, o0a.2.2.2.2.2.2.2.2.2.2.2.2.2.1, o0a.2.2.2.2.2.2.2.2.2.2.2.2.2.2.1, o0a.2.2.2.2.2.2.2.2.2.2.2.2.2.2.2.1, o0a.2.2.2.2.2.2.2.2.2.2.2.2.2.2.2.2)) ((o0aa.1, o0aa.2.1, o0aa.2.2.1, o0aa.2.2.2)) ((o0aaa.1, o0aaa.2.1, o0aaa.2.2.1, o0aaa.2.2.2)) q0aaab ((o0aaac.1, o0aaac.2.1, o0aaac.2.2.1, o0aaac.2.2.2.1, o0aaac.2.2.2.2.1, o0aaac.2.2.2.2.2.1, o0aaac.2.2.2.2.2.2)) q0aaacb q0aaacc q0aah q0aak q0b a1).bind fun r1 => (if ((!r1)) = true then some (0, false, 1) else (view_notes_of.impl ((o0a.1, o0a.2.1, o0a.2.2.1, o0a.2.2.2.1, o0a.2.2.2.2.1, o0a.2.2.2.2.2.1, o0a.2.2.2.2.2.2.1, o0a.2.2.2.2.2.2.2.1, o0a.2.2.2.2.2.2.2.2.1, o0a.2.2.2.2.2.2.2.2.2.1, o0a.2.2.2.2.2.2.2.2.2.2.1, o0a.2.2.2.2.2.2.2.2.2.2.2.1, o0a.2.2.2.2.2.2.2.2.2.2.2.2.1, o0a.2.2.2.2.2.2.2.2.2.2.2.2.2.1, o0a.2.2.2.2.2.2.2.2.2.2.2.2.2.2.1, o0a.2.2.2.2.2.2.2.2.2.2.2.2.2.2.2.1, o0a.2.2.2.2.2.2.2.2.2.2.2.2.2.2.2.2)) ((o0aa.1, o0aa.2.1, o0aa.2.2.1, o0aa.2.2.2)) ((o0aaa.1, o0aaa.2.1, o0aaa.2.2.1, o0aaa.2.2.2)) q0aaab ((o0aaac.1, o0aaac.2.1, o0aaac.2.2.1, o0aaac.2.2.2.1, o0aaac.2.2.2.2.1, o0aaac.2.2.2.2.2.1, o0aaac.2.2.2.2.2.2)) q0aaacb q0aaacc q0aah q0aak q0b a1).bind fun r2 => some (r2.1, r2.2.1, r2.2.2))
set_option maxRecDepth 100000 in
set_option maxHeartbeats 4000000 in
theorem view_Get.c {B : World} {hs : List MP} {w : World} {p0 : Nat} {p0a : Nat} {o0a : Int × Int × Int × Int × Int × Int × Int × Int × Int × Int × Int × Int × Int × Int × Int × Int × Int} {p0aa : Nat} {o0aa : Int × Int × Int × Int} {p0aaa : Nat} {o0aaa : Int × Int × Int × Int} {m0aaab : Nat} {q0aaab : List (Int × Int)} {p0aaac : Nat} {o0aaac : Int × Bool × Int × Int × Int × Int × Int} {m0aaacb : Nat} {q0aaacb : List (Int × (List UInt8))} {c0aaacc : Nat} {A0aaacc : Option Addr} {q0aaacc : List (Int × (List UInt8))} {m0aah : Nat} {q0aah : List (Int × Int)} {m0aak : Nat} {q0aak : List (Int × Int)} {c0b : Nat} {A0b : Option Addr} {q0b : List ((Int × (List UInt8) × (List UInt8)) × Bool)} {a1 : Int} (hS : St B (Cl p0 99 [.pointer (some ⟨p0a, 0, none⟩), .slice A0b q0b.length c0b] :: Cl p0a 89 [.pointer (some ⟨p0aa, 0, none⟩), .int .i64 o0a.1, .int .i64 o0a.2.1, .int .i64 o0a.2.2.1, .int .i64 o0a.2.2.2.1, .int .i64 o0a.2.2.2.2.1, .int .i64 o0a.2.2.2.2.2.1, .int .i64 o0a.2.2.2.2.2.2.1, .int .i64 o0a.2.2.2.2.2.2.2.1, .int .i64 o0a.2.2.2.2.2.2.2.2.1, .int .i64 o0a.2.2.2.2.2.2.2.2.2.1, .int .i64 o0a.2.2.2.2.2.2.2.2.2.2.1, .int .i64 o0a.2.2.2.2.2.2.2.2.2.2.2.1, .int .i64 o0a.2.2.2.2.2.2.2.2.2.2.2.2.1, .int .i64 o0a.2.2.2.2.2.2.2.2.2.2.2.2.2.1, .int .i64 o0a.2.2.2.2.2.2.2.2.2.2.2.2.2.2.1, .int .i64 o0a.2.2.2.2.2.2.2.2.2.2.2.2.2.2.2.1, .int .i64 o0a.2.2.2.2.2.2.2.2.2.2.2.2.2.2.2.2] :: Cl p0aa 115 [.pointer (some ⟨p0aaa, 0, none⟩), .nilIface, .int .i64 o0aa.1, .int .i64 o0aa.2.1, .nilIface, .int .i64 o0aa.2.2.1, .int .i64 o0aa.2.2.2, .map (some m0aah), .slice none 0 0, .slice none 0 0, .map (some m0aak)] :: Cl p0aaa 134 [.int .i64 o0aaa.1, .map (some m0aaab), .pointer (some ⟨p0aaac, 0, none⟩), .int .i64 o0aaa.2.1, .int .u64 o0aaa.2.2.1, .int .i64 o0aaa.2.2.2] :: Mp E64 m0aaab q0aaab :: Cl p0aaac 83 [.int .i64 o0aaac.1, .map (some m0aaacb), .slice A0aaacc q0aaacc.length c0aaacc, .bool o0aaac.2.1, .int .i64 o0aaac.2.2.1, .int .i64 o0aaac.2.2.2.1, .int .u64 o0aaac.2.2.2.2.1, .int .i64 o0aaac.2.2.2.2.2.1, .int .i64 o0aaac.2.2.2.2.2.2] :: Mp (Elt.slice E8) m0aaacb q0aaacb :: Bf (Elt.pair E64 (Elt.slice E8)) 158 A0aaacc c0aaacc q0aaacc :: Mp E64 m0aah q0aah :: Mp E64 m0aak q0aak :: Bf (Elt.pair (Elt.pair E64 (Elt.pair (Elt.slice E8) (Elt.slice E8))) EBool) 102 A0b c0b q0b :: hs) w) {r : Int × Bool × Int} (hr : view_Get.impl o0a o0aa o0aaa q0aaab o0aaac q0aaacb q0aaacc q0aah q0aak q0b a1 = some r) :
    Calls Try.prog 9 #[.pointer (some ⟨p0, 0, none⟩), .int .i64 a1] w fun e w' => ∃ x : Unit, e = .returned (.tuple #[.int .i64 r.1, .bool r.2.1, .int .i64 r.2.2]) ∧ St B (Cl p0 99 [.pointer (some ⟨p0a, 0, none⟩), .slice A0b q0b.length c0b] :: Cl p0a 89 [.pointer (some ⟨p0aa, 0, none⟩), .int .i64 o0a.1, .int .i64 o0a.2.1, .int .i64 o0a.2.2.1, .int .i64 o0a.2.2.2.1, .int .i64 o0a.2.2.2.2.1, .int .i64 o0a.2.2.2.2.2.1, .int .i64 o0a.2.2.2.2.2.2.1, .int .i64 o0a.2.2.2.2.2.2.2.1, .int .i64 o0a.2.2.2.2.2.2.2.2.1, .int .i64 o0a.2.2.2.2.2.2.2.2.2.1, .int .i64 o0a.2.2.2.2.2.2.2.2.2.2.1, .int .i64 o0a.2.2.2.2.2.2.2.2.2.2.2.1, .int .i64 o0a.2.2.2.2.2.2.2.2.2.2.2.2.1, .int .i64 o0a.2.2.2.2.2.2.2.2.2.2.2.2.2.1, .int .i64 o0a.2.2.2.2.2.2.2.2.2.2.2.2.2.2.1, .int .i64 o0a.2.2.2.2.2.2.2.2.2.2.2.2.2.2.2.1, .int .i64 o0a.2.2.2.2.2.2.2.2.2.2.2.2.2.2.2.2] :: Cl p0aa 115 [.pointer (some ⟨p0aaa, 0, none⟩), .nilIface, .int .i64 o0aa.1, .int .i64 o0aa.2.1, .nilIface, .int .i64 o0aa.2.2.1, .int .i64 o0aa.2.2.2, .map (some m0aah), .slice none 0 0, .slice none 0 0, .map (some m0aak)] :: Cl p0aaa 134 [.int .i64 o0aaa.1, .map (some m0aaab), .pointer (some ⟨p0aaac, 0, none⟩), .int .i64 o0aaa.2.1, .int .u64 o0aaa.2.2.1, .int .i64 o0aaa.2.2.2] :: Mp E64 m0aaab q0aaab :: Cl p0aaac 83 [.int .i64 o0aaac.1, .map (some m0aaacb), .slice A0aaacc q0aaacc.length c0aaacc, .bool o0aaac.2.1, .int .i64 o0aaac.2.2.1, .int .i64 o0aaac.2.2.2.1, .int .u64 o0aaac.2.2.2.2.1, .int .i64 o0aaac.2.2.2.2.2.1, .int .i64 o0aaac.2.2.2.2.2.2] :: Mp (Elt.slice E8) m0aaacb q0aaacb :: Bf (Elt.pair E64 (Elt.slice E8)) 158 A0aaacc c0aaacc q0aaacc :: Mp E64 m0aah q0aah :: Mp E64 m0aak q0aak :: Bf (Elt.pair (Elt.pair E64 (Elt.pair (Elt.slice E8) (Elt.slice E8))) EBool) 102 A0b c0b q0b :: hs) w' := by
 unfold view_Get.impl at hr
 refine calls_T Try.func9 rfl rfl rfl hS ?_
 refine T.seq ?_
 refine T.region ?_
 refine T.assign .list rfl (wants0 rfl) rfl rfl ?_
 refine T.assign .list rfl (wants0 rfl) rfl rfl ?_
 refine T.assign .list rfl (wants0 rfl) rfl rfl ?_
 refine T.nil ?_
 refine T.then_normal ?_
 refine T.seq ?_
 refine T.seq ?_
 refine T.region ?_
 refine T.move .list rfl (wants0 rfl) rfl rfl ?_
 refine T.move .list rfl (wants0 rfl) rfl rfl ?_
 refine T.pick [0, 1, 2, 3, 4, 5, 6, 7, 8, 9, 10] 11 rfl rfl (Nat.le_add_left _ _) (hs' := Cl p0 99 [.pointer (some ⟨p0a, 0, none⟩), .slice A0b q0b.length c0b] :: Cl p0a 89 [.pointer (some ⟨p0aa, 0, none⟩), .int .i64 o0a.1, .int .i64 o0a.2.1, .int .i64 o0a.2.2.1, .int .i64 o0a.2.2.2.1, .int .i64 o0a.2.2.2.2.1, .int .i64 o0a.2.2.2.2.2.1, .int .i64 o0a.2.2.2.2.2.2.1, .int .i64 o0a.2.2.2.2.2.2.2.1, .int .i64 o0a.2.2.2.2.2.2.2.2.1, .int .i64 o0a.2.2.2.2.2.2.2.2.2.1, .int .i64 o0a.2.2.2.2.2.2.2.2.2.2.1, .int .i64 o0a.2.2.2.2.2.2.2.2.2.2.2.1, .int .i64 o0a.2.2.2.2.2.2.2.2.2.2.2.2.1, .int .i64 o0a.2.2.2.2.2.2.2.2.2.2.2.2.2.1, .int .i64 o0a.2.2.2.2.2.2.2.2.2.2.2.2.2.2.1, .int .i64 o0a.2.2.2.2.2.2.2.2.2.2.2.2.2.2.2.1, .int .i64 o0a.2.2.2.2.2.2.2.2.2.2.2.2.2.2.2.2] :: Cl p0aa 115 [.pointer (some ⟨p0aaa, 0, none⟩), .nilIface, .int .i64 o0aa.1, .int .i64 o0aa.2.1, .nilIface, .int .i64 o0aa.2.2.1, .int .i64 o0aa.2.2.2, .map (some m0aah), .slice none 0 0, .slice none 0 0, .map (some m0aak)] :: Cl p0aaa 134 [.int .i64 o0aaa.1, .map (some m0aaab), .pointer (some ⟨p0aaac, 0, none⟩), .int .i64 o0aaa.2.1, .int .u64 o0aaa.2.2.1, .int .i64 o0aaa.2.2.2] :: Mp E64 m0aaab q0aaab :: Cl p0aaac 83 [.int .i64 o0aaac.1, .map (some m0aaacb), .slice A0aaacc q0aaacc.length c0aaacc, .bool o0aaac.2.1, .int .i64 o0aaac.2.2.1, .int .i64 o0aaac.2.2.2.1, .int .u64 o0aaac.2.2.2.2.1, .int .i64 o0aaac.2.2.2.2.2.1, .int .i64 o0aaac.2.2.2.2.2.2] :: Mp (Elt.slice E8) m0aaacb q0aaacb :: Bf (Elt.pair E64 (Elt.slice E8)) 158 A0aaacc c0aaacc q0aaacc :: Mp E64 m0aah q0aah :: Mp E64 m0aak q0aak :: Bf (Elt.pair (Elt.pair E64 (Elt.pair (Elt.slice E8) (Elt.slice E8))) EBool) 102 A0b c0b q0b :: hs) rfl ?_
 obtain ⟨r1, hg1, hr⟩ := inv_bind hr
 refine T.call .list (wants0 rfl) rfl (run_callF (vs := [_, _]) rfl Try.func20 rfl (by decide) rfl) (fun w hS => view_right.c hS (o0a := (o0a.1, o0a.2.1, o0a.2.2.1, o0a.2.2.2.1, o0a.2.2.2.2.1, o0a.2.2.2.2.2.1, o0a.2.2.2.2.2.2.1, o0a.2.2.2.2.2.2.2.1, o0a.2.2.2.2.2.2.2.2.1, o0a.2.2.2.2.2.2.2.2.2.1, o0a.2.2.2.2.2.2.2.2.2.2.1, o0a.2.2.2.2.2.2.2.2.2.2.2.1, o0a.2.2.2.2.2.2.2.2.2.2.2.2.1, o0a.2.2.2.2.2.2.2.2.2.2.2.2.2.1, o0a.2.2.2.2.2.2.2.2.2.2.2.2.2.2.1, o0a.2.2.2.2.2.2.2.2.2.2.2.2.2.2.2.1, o0a.2.2.2.2.2.2.2.2.2.2.2.2.2.2.2.2)) (o0aa := (o0aa.1, o0aa.2.1, o0aa.2.2.1, o0aa.2.2.2)) (o0aaa := (o0aaa.1, o0aaa.2.1, o0aaa.2.2.1, o0aaa.2.2.2)) (q0aaab := q0aaab) (o0aaac := (o0aaac.1, o0aaac.2.1, o0aaac.2.2.1, o0aaac.2.2.2.1, o0aaac.2.2.2.2.1, o0aaac.2.2.2.2.2.1, o0aaac.2.2.2.2.2.2)) (q0aaacb := q0aaacb) (q0aaacc := q0aaacc) (q0aah := q0aah) (q0aak := q0aak) (q0b := q0b)  hg1) (fun x1 => ?_)
 refine T.not .list rfl (wants0 rfl) rfl rfl ?_
 refine T.nil ?_
 refine T.then_normal ?_
 refine T.cond rfl (fun hb1 => ?_) (fun hb1 => ?_)
 ·replace hr := inv_posB hb1 hr
  refine T.seq ?_
  refine T.region ?_
  refine T.assign .list rfl (wants0 rfl) rfl rfl ?_
  refine T.assign .list rfl (wants0 rfl) rfl rfl ?_
  refine T.assign .list rfl (wants0 rfl) rfl rfl ?_
  refine T.nil ?_
  refine T.then_normal ?_
  refine T.ret ?_
  refine T.then_ret ?_
  obtain rfl := inv_some hr
  refine T.pick [0, 1, 2, 3, 4, 5, 6, 7, 8, 9, 10] 11 rfl rfl (Nat.le_add_left _ _) rfl ?_
  refine T.ret3 rfl rfl rfl rfl (fun w hS => ⟨(), rfl, hS⟩)
 ·replace hr := inv_negB hb1 hr
  refine T.skip ?_
  refine T.then_normal ?_
  refine T.seq ?_
  refine T.region ?_
  refine T.move .list rfl (wants0 rfl) rfl rfl ?_
  refine T.build .list (vals := [(0, .pointer (some ⟨p0, 0, none⟩))]) (cells := #[.pointer (some ⟨p0, 0, none⟩)]) rfl (wants0 rfl) rfl rfl (run_buildStruct (sizes := [1]) (by kernel_rfl) (by kernel_rfl)) ?_
  refine T.move .list rfl (wants0 rfl) rfl rfl ?_
  refine T.pick [0, 1, 2, 3, 4, 5, 6, 7, 8, 9, 10] 11 rfl rfl (Nat.le_add_left _ _) (hs' := Cl p0 99 [.pointer (some ⟨p0a, 0, none⟩), .slice A0b q0b.length c0b] :: Cl p0a 89 [.pointer (some ⟨p0aa, 0, none⟩), .int .i64 o0a.1, .int .i64 o0a.2.1, .int .i64 o0a.2.2.1, .int .i64 o0a.2.2.2.1, .int .i64 o0a.2.2.2.2.1, .int .i64 o0a.2.2.2.2.2.1, .int .i64 o0a.2.2.2.2.2.2.1, .int .i64 o0a.2.2.2.2.2.2.2.1, .int .i64 o0a.2.2.2.2.2.2.2.2.1, .int .i64 o0a.2.2.2.2.2.2.2.2.2.1, .int .i64 o0a.2.2.2.2.2.2.2.2.2.2.1, .int .i64 o0a.2.2.2.2.2.2.2.2.2.2.2.1, .int .i64 o0a.2.2.2.2.2.2.2.2.2.2.2.2.1, .int .i64 o0a.2.2.2.2.2.2.2.2.2.2.2.2.2.1, .int .i64 o0a.2.2.2.2.2.2.2.2.2.2.2.2.2.2.1, .int .i64 o0a.2.2.2.2.2.2.2.2.2.2.2.2.2.2.2.1, .int .i64 o0a.2.2.2.2.2.2.2.2.2.2.2.2.2.2.2.2] :: Cl p0aa 115 [.pointer (some ⟨p0aaa, 0, none⟩), .nilIface, .int .i64 o0aa.1, .int .i64 o0aa.2.1, .nilIface, .int .i64 o0aa.2.2.1, .int .i64 o0aa.2.2.2, .map (some m0aah), .slice none 0 0, .slice none 0 0, .map (some m0aak)] :: Cl p0aaa 134 [.int .i64 o0aaa.1, .map (some m0aaab), .pointer (some ⟨p0aaac, 0, none⟩), .int .i64 o0aaa.2.1, .int .u64 o0aaa.2.2.1, .int .i64 o0aaa.2.2.2] :: Mp E64 m0aaab q0aaab :: Cl p0aaac 83 [.int .i64 o0aaac.1, .map (some m0aaacb), .slice A0aaacc q0aaacc.length c0aaacc, .bool o0aaac.2.1, .int .i64 o0aaac.2.2.1, .int .i64 o0aaac.2.2.2.1, .int .u64 o0aaac.2.2.2.2.1, .int .i64 o0aaac.2.2.2.2.2.1, .int .i64 o0aaac.2.2.2.2.2.2] :: Mp (Elt.slice E8) m0aaacb q0aaacb :: Bf (Elt.pair E64 (Elt.slice E8)) 158 A0aaacc c0aaacc q0aaacc :: Mp E64 m0aah q0aah :: Mp E64 m0aak q0aak :: Bf (Elt.pair (Elt.pair E64 (Elt.pair (Elt.slice E8) (Elt.slice E8))) EBool) 102 A0b c0b q0b :: hs) rfl ?_
  obtain ⟨r2, hg2, hr⟩ := inv_bind hr
  refine T.call .list (wants0 rfl) rfl (run_callF (vs := [_, _]) rfl Try.func21 rfl (by decide) rfl) (fun w hS => view_notes_of.c hS (o0s0a := (o0a.1, o0a.2.1, o0a.2.2.1, o0a.2.2.2.1, o0a.2.2.2.2.1, o0a.2.2.2.2.2.1, o0a.2.2.2.2.2.2.1, o0a.2.2.2.2.2.2.2.1, o0a.2.2.2.2.2.2.2.2.1, o0a.2.2.2.2.2.2.2.2.2.1, o0a.2.2.2.2.2.2.2.2.2.2.1, o0a.2.2.2.2.2.2.2.2.2.2.2.1, o0a.2.2.2.2.2.2.2.2.2.2.2.2.1, o0a.2.2.2.2.2.2.2.2.2.2.2.2.2.1, o0a.2.2.2.2.2.2.2.2.2.2.2.2.2.2.1, o0a.2.2.2.2.2.2.2.2.2.2.2.2.2.2.2.1, o0a.2.2.2.2.2.2.2.2.2.2.2.2.2.2.2.2)) (o0s0aa := (o0aa.1, o0aa.2.1, o0aa.2.2.1, o0aa.2.2.2)) (o0s0aaa := (o0aaa.1, o0aaa.2.1, o0aaa.2.2.1, o0aaa.2.2.2)) (q0s0aaab := q0aaab) (o0s0aaac := (o0aaac.1, o0aaac.2.1, o0aaac.2.2.1, o0aaac.2.2.2.1, o0aaac.2.2.2.2.1, o0aaac.2.2.2.2.2.1, o0aaac.2.2.2.2.2.2)) (q0s0aaacb := q0aaacb) (q0s0aaacc := q0aaacc) (q0s0aah := q0aah) (q0s0aak := q0aak) (q0s0b := q0b)  hg2) (fun x2 => ?_)
  refine T.extract .list rfl (wants0 rfl) rfl rfl rfl ?_
  refine T.extract .list rfl (wants0 rfl) rfl rfl rfl ?_
  refine T.extract .list rfl (wants0 rfl) rfl rfl rfl ?_
  refine T.assign .list rfl (wants0 rfl) rfl rfl ?_
  refine T.assign .list rfl (wants0 rfl) rfl rfl ?_
  refine T.assign .list rfl (wants0 rfl) rfl rfl ?_
  refine T.nil ?_
  refine T.then_normal ?_
  refine T.ret ?_
  obtain rfl := inv_some hr
  refine T.pick [0, 1, 2, 3, 4, 5, 6, 7, 8, 9, 10] 11 rfl rfl (Nat.le_add_left _ _) rfl ?_
  refine T.ret3 rfl rfl rfl rfl (fun w hS => ⟨(), rfl, hS⟩)

noncomputable def view_Least.k1 (s1 : Int × Bool) : Option (Int × Bool × Int) :=
  some (s1.1, s1.2, 0)
noncomputable def view_Least.k2 (r1 : Int × Bool × Int) (s2 : Int × Bool × Int) (s3 : Bool) : Option ((Int × Bool × Int) ⊕ ((Int × Bool × Int) ⊕ (Int × Bool))) :=
  (if s3 = true then some (.inl (r1.1, true, IntKind.i64.wrap (s2.2.2 + 1))) else some (.inl (s2.1, s2.2.1, IntKind.i64.wrap (s2.2.2 + 1))))
noncomputable def view_Least.st1 (o0a : Int × Int × Int × Int × Int × Int × Int × Int × Int × Int × Int × Int × Int × Int × Int × Int × Int) (o0aa : Int × Int × Int × Int) (o0aaa : Int × Int × Int × Int) (q0aaab : List (Int × Int)) (o0aaac : Int × Bool × Int × Int × Int × Int × Int) (q0aaacb : List (Int × (List UInt8))) (q0aaacc : List (Int × (List UInt8))) (q0aah : List (Int × Int)) (q0aak : List (Int × Int)) (q0b : List ((Int × (List UInt8) × (List UInt8)) × Bool)) (s2 : Int × Bool × Int) : Option ((Int × Bool × Int) ⊕ ((Int × Bool × Int) ⊕ (Int × Bool))) :=
  (if ((decide (s2.2.2 < 4))) = true then (view_notes_of.impl ((o0a.1, o0a.2.1, o0a.2.2.1, o0a.2.2.2.1, o0a.2.2.2.2.1, o0a.2.2.2.2.2.1, o0a.2.2.2.2.2.2.1, o0a.2.2.2.2.2.2.2.1, o0a.2.2.2.2.2.2.2.2.1, o0a.2.2.2.2.2.2.2.2.2.1, o0a.2.2.2.2.2.2.2.2.2.2.1, o0a.2.2.2.2.2.2.2.2.2.2.2.1, o0a.2.2.2.2.2.2.2.2.2.2.2.2.1, o0a.2.2.2.2.2.2.2.2.2.2.2.2.2.1, o0a.2.2.2.2.2.2.2.2.2.2.2.2.2.2.1, o0a.2.2.2.2.2.2.2.2.2.2.2.2.2.2.2.1, o0a.2.2.2.2.2.2.2.2.2.2.2.2.2.2.2.2)) ((o0aa.1, o0aa.2.1, o0aa.2.2.1, o0aa.2.2.2)) ((o0aaa.1, o0aaa.2.1, o0aaa.2.2.1, o0aaa.2.2.2)) q0aaab ((o0aaac.1, o0aaac.2.1, o0aaac.2.2.1, o0aaac.2.2.2.1, o0aaac.2.2.2.2.1, o0aaac.2.2.2.2.2.1, o0aaac.2.2.2.2.2.2)) q0aaacb q0aaacc q0aah q0aak q0b s2.2.2).bind fun r1 => (if ((!(decide (r1.2.2 = 0)))) = true then some (.inr (.inl (0, false, r1.2.2))) else (if r1.2.1 = true then (if s2.2.1 = true then view_Least.k2 r1 s2 (decide (r1.1 < s2.1)) else view_Least.k2 r1 s2 true) else view_Least.k2 r1 s2 false)) else some (.inr (.inr (s2.1, s2.2.1))))
noncomputable def view_Least.impl (o0a : Int × Int × Int × Int × Int × Int × Int × Int × Int × Int × Int × Int × Int × Int × Int × Int × Int) (o0aa : Int × Int × Int × Int) (o0aaa : Int × Int × Int × Int) (q0aaab : List (Int × Int)) (o0aaac : Int × Bool × Int × Int × Int × Int × Int) (q0aaacb : List (Int × (List UInt8))) (q0aaacc : List (Int × (List UInt8))) (q0aah : List (Int × Int)) (q0aak : List (Int × Int)) (q0b : List ((Int × (List UInt8) × (List UInt8)) × Bool)) : Option (Int × Bool × Int) :=
  (loop (view_Least.st1 o0a o0aa o0aaa q0aaab o0aaac q0aaacb q0aaacc q0aah q0aak q0b) (0, false, 0)).bind (fun e1 => match e1 with | .inl v => some v | .inr v => view_Least.k1 v)
set_option maxRecDepth 100000 in
set_option maxHeartbeats 4000000 in
theorem view_Least.c {B : World} {hs : List MP} {w : World} {p0 : Nat} {p0a : Nat} {o0a : Int × Int × Int × Int × Int × Int × Int × Int × Int × Int × Int × Int × Int × Int × Int × Int × Int} {p0aa : Nat} {o0aa : Int × Int × Int × Int} {p0aaa : Nat} {o0aaa : Int × Int × Int × Int} {m0aaab : Nat} {q0aaab : List (Int × Int)} {p0aaac : Nat} {o0aaac : Int × Bool × Int × Int × Int × Int × Int} {m0aaacb : Nat} {q0aaacb : List (Int × (List UInt8))} {c0aaacc : Nat} {A0aaacc : Option Addr} {q0aaacc : List (Int × (List UInt8))} {m0aah : Nat} {q0aah : List (Int × Int)} {m0aak : Nat} {q0aak : List (Int × Int)} {c0b : Nat} {A0b : Option Addr} {q0b : List ((Int × (List UInt8) × (List UInt8)) × Bool)} (hS : St B (Cl p0 99 [.pointer (some ⟨p0a, 0, none⟩), .slice A0b q0b.length c0b] :: Cl p0a 89 [.pointer (some ⟨p0aa, 0, none⟩), .int .i64 o0a.1, .int .i64 o0a.2.1, .int .i64 o0a.2.2.1, .int .i64 o0a.2.2.2.1, .int .i64 o0a.2.2.2.2.1, .int .i64 o0a.2.2.2.2.2.1, .int .i64 o0a.2.2.2.2.2.2.1, .int .i64 o0a.2.2.2.2.2.2.2.1, .int .i64 o0a.2.2.2.2.2.2.2.2.1, .int .i64 o0a.2.2.2.2.2.2.2.2.2.1, .int .i64 o0a.2.2.2.2.2.2.2.2.2.2.1, .int .i64 o0a.2.2.2.2.2.2.2.2.2.2.2.1, .int .i64 o0a.2.2.2.2.2.2.2.2.2.2.2.2.1, .int .i64 o0a.2.2.2.2.2.2.2.2.2.2.2.2.2.1, .int .i64 o0a.2.2.2.2.2.2.2.2.2.2.2.2.2.2.1, .int .i64 o0a.2.2.2.2.2.2.2.2.2.2.2.2.2.2.2.1, .int .i64 o0a.2.2.2.2.2.2.2.2.2.2.2.2.2.2.2.2] :: Cl p0aa 115 [.pointer (some ⟨p0aaa, 0, none⟩), .nilIface, .int .i64 o0aa.1, .int .i64 o0aa.2.1, .nilIface, .int .i64 o0aa.2.2.1, .int .i64 o0aa.2.2.2, .map (some m0aah), .slice none 0 0, .slice none 0 0, .map (some m0aak)] :: Cl p0aaa 134 [.int .i64 o0aaa.1, .map (some m0aaab), .pointer (some ⟨p0aaac, 0, none⟩), .int .i64 o0aaa.2.1, .int .u64 o0aaa.2.2.1, .int .i64 o0aaa.2.2.2] :: Mp E64 m0aaab q0aaab :: Cl p0aaac 83 [.int .i64 o0aaac.1, .map (some m0aaacb), .slice A0aaacc q0aaacc.length c0aaacc, .bool o0aaac.2.1, .int .i64 o0aaac.2.2.1, .int .i64 o0aaac.2.2.2.1, .int .u64 o0aaac.2.2.2.2.1, .int .i64 o0aaac.2.2.2.2.2.1, .int .i64 o0aaac.2.2.2.2.2.2] :: Mp (Elt.slice E8) m0aaacb q0aaacb :: Bf (Elt.pair E64 (Elt.slice E8)) 158 A0aaacc c0aaacc q0aaacc :: Mp E64 m0aah q0aah :: Mp E64 m0aak q0aak :: Bf (Elt.pair (Elt.pair E64 (Elt.pair (Elt.slice E8) (Elt.slice E8))) EBool) 102 A0b c0b q0b :: hs) w) {r : Int × Bool × Int} (hr : view_Least.impl o0a o0aa o0aaa q0aaab o0aaac q0aaacb q0aaacc q0aah q0aak q0b = some r) :
    Calls Try.prog 13 #[.pointer (some ⟨p0, 0, none⟩)] w fun e w' => ∃ x : Unit, e = .returned (.tuple #[.int .i64 r.1, .bool r.2.1, .int .i64 r.2.2]) ∧ St B (Cl p0 99 [.pointer (some ⟨p0a, 0, none⟩), .slice A0b q0b.length c0b] :: Cl p0a 89 [.pointer (some ⟨p0aa, 0, none⟩), .int .i64 o0a.1, .int .i64 o0a.2.1, .int .i64 o0a.2.2.1, .int .i64 o0a.2.2.2.1, .int .i64 o0a.2.2.2.2.1, .int .i64 o0a.2.2.2.2.2.1, .int .i64 o0a.2.2.2.2.2.2.1, .int .i64 o0a.2.2.2.2.2.2.2.1, .int .i64 o0a.2.2.2.2.2.2.2.2.1, .int .i64 o0a.2.2.2.2.2.2.2.2.2.1, .int .i64 o0a.2.2.2.2.2.2.2.2.2.2.1, .int .i64 o0a.2.2.2.2.2.2.2.2.2.2.2.1, .int .i64 o0a.2.2.2.2.2.2.2.2.2.2.2.2.1, .int .i64 o0a.2.2.2.2.2.2.2.2.2.2.2.2.2.1, .int .i64 o0a.2.2.2.2.2.2.2.2.2.2.2.2.2.2.1, .int .i64 o0a.2.2.2.2.2.2.2.2.2.2.2.2.2.2.2.1, .int .i64 o0a.2.2.2.2.2.2.2.2.2.2.2.2.2.2.2.2] :: Cl p0aa 115 [.pointer (some ⟨p0aaa, 0, none⟩), .nilIface, .int .i64 o0aa.1, .int .i64 o0aa.2.1, .nilIface, .int .i64 o0aa.2.2.1, .int .i64 o0aa.2.2.2, .map (some m0aah), .slice none 0 0, .slice none 0 0, .map (some m0aak)] :: Cl p0aaa 134 [.int .i64 o0aaa.1, .map (some m0aaab), .pointer (some ⟨p0aaac, 0, none⟩), .int .i64 o0aaa.2.1, .int .u64 o0aaa.2.2.1, .int .i64 o0aaa.2.2.2] :: Mp E64 m0aaab q0aaab :: Cl p0aaac 83 [.int .i64 o0aaac.1, .map (some m0aaacb), .slice A0aaacc q0aaacc.length c0aaacc, .bool o0aaac.2.1, .int .i64 o0aaac.2.2.1, .int .i64 o0aaac.2.2.2.1, .int .u64 o0aaac.2.2.2.2.1, .int .i64 o0aaac.2.2.2.2.2.1, .int .i64 o0aaac.2.2.2.2.2.2] :: Mp (Elt.slice E8) m0aaacb q0aaacb :: Bf (Elt.pair E64 (Elt.slice E8)) 158 A0aaacc c0aaacc q0aaacc :: Mp E64 m0aah q0aah :: Mp E64 m0aak q0aak :: Bf (Elt.pair (Elt.pair E64 (Elt.pair (Elt.slice E8) (Elt.slice E8))) EBool) 102 A0b c0b q0b :: hs) w' := by
 unfold view_Least.impl at hr
 refine calls_T Try.func13 rfl rfl rfl hS ?_
 refine T.seq ?_
 refine T.region ?_
 refine T.assign .list rfl (wants0 rfl) rfl rfl ?_
 refine T.assign .list rfl (wants0 rfl) rfl rfl ?_
 refine T.assign .list rfl (wants0 rfl) rfl rfl ?_
 refine T.nil ?_
 refine T.then_normal ?_
 refine T.seq ?_
 refine T.seq ?_
 refine T.region ?_
 refine T.move .list rfl (wants0 rfl) rfl rfl ?_
 refine T.ptrEq (pt := 99) .list rfl (wants0 rfl) rfl rfl rfl (by kernel_rfl) (.inr rfl) rfl ?_
 refine T.nil ?_
 refine T.then_normal ?_
 refine T.condF rfl rfl ?_
 refine T.skip ?_
 refine T.then_normal ?_
 refine T.seq ?_
 refine T.region ?_
 refine T.move .list rfl (wants0 rfl) rfl rfl ?_
 refine T.build .list (vals := [(0, .pointer (some ⟨p0, 0, none⟩))]) (cells := #[.pointer (some ⟨p0, 0, none⟩)]) rfl (wants0 rfl) rfl rfl (run_buildStruct (sizes := [1]) (by kernel_rfl) (by kernel_rfl)) ?_
 refine T.makeBound .list (vs := [.agg #[.pointer (some ⟨p0, 0, none⟩)]]) rfl (wants0 rfl) rfl rfl ?_
 refine T.assign .list rfl (wants0 rfl) rfl rfl ?_
 refine T.nil ?_
 refine T.then_normal ?_
 refine T.seq ?_
 refine T.region ?_
 refine T.assign .list rfl (wants0 rfl) rfl rfl ?_
 refine T.assign .list rfl (wants0 rfl) rfl rfl ?_
 refine T.nil ?_
 refine T.then_normal ?_
 refine T.seqJ (fun (s1 : Int × Bool) (x1 : Unit) => [(6, .int .i64 s1.1), (7, .bool s1.2)]) (fun s1 x1 => Cl p0 99 [.pointer (some ⟨p0a, 0, none⟩), .slice A0b q0b.length c0b] :: Cl p0a 89 [.pointer (some ⟨p0aa, 0, none⟩), .int .i64 o0a.1, .int .i64 o0a.2.1, .int .i64 o0a.2.2.1, .int .i64 o0a.2.2.2.1, .int .i64 o0a.2.2.2.2.1, .int .i64 o0a.2.2.2.2.2.1, .int .i64 o0a.2.2.2.2.2.2.1, .int .i64 o0a.2.2.2.2.2.2.2.1, .int .i64 o0a.2.2.2.2.2.2.2.2.1, .int .i64 o0a.2.2.2.2.2.2.2.2.2.1, .int .i64 o0a.2.2.2.2.2.2.2.2.2.2.1, .int .i64 o0a.2.2.2.2.2.2.2.2.2.2.2.1, .int .i64 o0a.2.2.2.2.2.2.2.2.2.2.2.2.1, .int .i64 o0a.2.2.2.2.2.2.2.2.2.2.2.2.2.1, .int .i64 o0a.2.2.2.2.2.2.2.2.2.2.2.2.2.2.1, .int .i64 o0a.2.2.2.2.2.2.2.2.2.2.2.2.2.2.2.1, .int .i64 o0a.2.2.2.2.2.2.2.2.2.2.2.2.2.2.2.2] :: Cl p0aa 115 [.pointer (some ⟨p0aaa, 0, none⟩), .nilIface, .int .i64 o0aa.1, .int .i64 o0aa.2.1, .nilIface, .int .i64 o0aa.2.2.1, .int .i64 o0aa.2.2.2, .map (some m0aah), .slice none 0 0, .slice none 0 0, .map (some m0aak)] :: Cl p0aaa 134 [.int .i64 o0aaa.1, .map (some m0aaab), .pointer (some ⟨p0aaac, 0, none⟩), .int .i64 o0aaa.2.1, .int .u64 o0aaa.2.2.1, .int .i64 o0aaa.2.2.2] :: Mp E64 m0aaab q0aaab :: Cl p0aaac 83 [.int .i64 o0aaac.1, .map (some m0aaacb), .slice A0aaacc q0aaacc.length c0aaacc, .bool o0aaac.2.1, .int .i64 o0aaac.2.2.1, .int .i64 o0aaac.2.2.2.1, .int .u64 o0aaac.2.2.2.2.1, .int .i64 o0aaac.2.2.2.2.2.1, .int .i64 o0aaac.2.2.2.2.2.2] :: Mp (Elt.slice E8) m0aaacb q0aaacb :: Bf (Elt.pair E64 (Elt.slice E8)) 158 A0aaacc c0aaacc q0aaacc :: Mp E64 m0aah q0aah :: Mp E64 m0aak q0aak :: Bf (Elt.pair (Elt.pair E64 (Elt.pair (Elt.slice E8) (Elt.slice E8))) EBool) 102 A0b c0b q0b :: hs) (fun s1 => view_Least.k1 s1 = some r) (fun s1 x1 hk1 => ?_) (fun J1 => ?_)
 ·unfold view_Least.k1 at hk1
  refine T.seq ?_
  refine T.region ?_
  refine T.move .list rfl (wants0 rfl) rfl rfl ?_
  refine T.move .list rfl (wants0 rfl) rfl rfl ?_
  refine T.assign .list rfl (wants0 rfl) rfl rfl ?_
  refine T.assign .list rfl (wants0 rfl) rfl rfl ?_
  refine T.assign .list rfl (wants0 rfl) rfl rfl ?_
  refine T.nil ?_
  refine T.then_normal ?_
  refine T.ret ?_
  obtain rfl := inv_some hk1
  refine T.pick [0, 1, 2, 3, 4, 5, 6, 7, 8, 9, 10] 11 rfl rfl (Nat.le_add_left _ _) rfl ?_
  refine T.ret3 rfl rfl rfl rfl (fun w hS => ⟨(), rfl, hS⟩)
 ·refine T.seq ?_
  refine T.region ?_
  refine T.move .list rfl (wants0 rfl) rfl rfl ?_
  refine T.nil ?_
  refine T.then_normal ?_
  refine T.block ?_
  obtain ⟨e1, hl1, hr⟩ := inv_bind hr
  refine T.le (EnvLe.cons rfl (EnvLe.cons rfl (EnvLe.cons rfl (EnvLe.cons rfl EnvLe.nil)))) (T.pick [0, 1, 2, 3, 4, 5, 6, 7, 8, 9, 10] 11 rfl rfl (Nat.le_add_left _ _) rfl (T.loop (s0 := (0, false, 0)) (env := fun s2 x2 => [(5, .func (.func 21) #[.agg #[.pointer (some ⟨p0, 0, none⟩)]] #[]), (6, .int .i64 s2.1), (7, .bool s2.2.1), (17, .int .i64 s2.2.2)]) (hs := fun (s2 : Int × Bool × Int) (x2 : Unit) => Cl p0 99 [.pointer (some ⟨p0a, 0, none⟩), .slice A0b q0b.length c0b] :: Cl p0a 89 [.pointer (some ⟨p0aa, 0, none⟩), .int .i64 o0a.1, .int .i64 o0a.2.1, .int .i64 o0a.2.2.1, .int .i64 o0a.2.2.2.1, .int .i64 o0a.2.2.2.2.1, .int .i64 o0a.2.2.2.2.2.1, .int .i64 o0a.2.2.2.2.2.2.1, .int .i64 o0a.2.2.2.2.2.2.2.1, .int .i64 o0a.2.2.2.2.2.2.2.2.1, .int .i64 o0a.2.2.2.2.2.2.2.2.2.1, .int .i64 o0a.2.2.2.2.2.2.2.2.2.2.1, .int .i64 o0a.2.2.2.2.2.2.2.2.2.2.2.1, .int .i64 o0a.2.2.2.2.2.2.2.2.2.2.2.2.1, .int .i64 o0a.2.2.2.2.2.2.2.2.2.2.2.2.2.1, .int .i64 o0a.2.2.2.2.2.2.2.2.2.2.2.2.2.2.1, .int .i64 o0a.2.2.2.2.2.2.2.2.2.2.2.2.2.2.2.1, .int .i64 o0a.2.2.2.2.2.2.2.2.2.2.2.2.2.2.2.2] :: Cl p0aa 115 [.pointer (some ⟨p0aaa, 0, none⟩), .nilIface, .int .i64 o0aa.1, .int .i64 o0aa.2.1, .nilIface, .int .i64 o0aa.2.2.1, .int .i64 o0aa.2.2.2, .map (some m0aah), .slice none 0 0, .slice none 0 0, .map (some m0aak)] :: Cl p0aaa 134 [.int .i64 o0aaa.1, .map (some m0aaab), .pointer (some ⟨p0aaac, 0, none⟩), .int .i64 o0aaa.2.1, .int .u64 o0aaa.2.2.1, .int .i64 o0aaa.2.2.2] :: Mp E64 m0aaab q0aaab :: Cl p0aaac 83 [.int .i64 o0aaac.1, .map (some m0aaacb), .slice A0aaacc q0aaacc.length c0aaacc, .bool o0aaac.2.1, .int .i64 o0aaac.2.2.1, .int .i64 o0aaac.2.2.2.1, .int .u64 o0aaac.2.2.2.2.1, .int .i64 o0aaac.2.2.2.2.2.1, .int .i64 o0aaac.2.2.2.2.2.2] :: Mp (Elt.slice E8) m0aaacb q0aaacb :: Bf (Elt.pair E64 (Elt.slice E8)) 158 A0aaacc c0aaacc q0aaacc :: Mp E64 m0aah q0aah :: Mp E64 m0aak q0aak :: Bf (Elt.pair (Elt.pair E64 (Elt.pair (Elt.slice E8) (Elt.slice E8))) EBool) 102 A0b c0b q0b :: hs) hl1 () (fun K1 s2 x2 o1 he1 hm1 hx1 => ?_)))
  unfold view_Least.st1 at he1
  refine T.seq ?_
  refine T.region ?_
  refine T.bin .list rfl (wants0 rfl) rfl rfl rfl rfl ?_
  refine T.nil ?_
  refine T.then_normal ?_
  refine T.seq ?_
  refine T.cond rfl (fun hb1 => ?_) (fun hb1 => ?_)
  ·replace he1 := inv_posB hb1 he1
   refine T.skip ?_
   refine T.then_normal ?_
   refine T.seq ?_
   refine T.block ?_
   refine T.seq ?_
   refine T.region ?_
   refine T.move .list rfl (wants0 rfl) rfl rfl ?_
   refine T.assign .list rfl (wants0 rfl) rfl rfl ?_
   refine T.nil ?_
   refine T.then_normal ?_
   refine T.seq ?_
   refine T.region ?_
   refine T.move .list rfl (wants0 rfl) rfl rfl ?_
   refine T.move .list rfl (wants0 rfl) rfl rfl ?_
   refine T.pick [0, 1, 2, 3, 4, 5, 6, 7, 8, 9, 10] 11 rfl rfl (Nat.le_add_left _ _) (hs' := Cl p0 99 [.pointer (some ⟨p0a, 0, none⟩), .slice A0b q0b.length c0b] :: Cl p0a 89 [.pointer (some ⟨p0aa, 0, none⟩), .int .i64 o0a.1, .int .i64 o0a.2.1, .int .i64 o0a.2.2.1, .int .i64 o0a.2.2.2.1, .int .i64 o0a.2.2.2.2.1, .int .i64 o0a.2.2.2.2.2.1, .int .i64 o0a.2.2.2.2.2.2.1, .int .i64 o0a.2.2.2.2.2.2.2.1, .int .i64 o0a.2.2.2.2.2.2.2.2.1, .int .i64 o0a.2.2.2.2.2.2.2.2.2.1, .int .i64 o0a.2.2.2.2.2.2.2.2.2.2.1, .int .i64 o0a.2.2.2.2.2.2.2.2.2.2.2.1, .int .i64 o0a.2.2.2.2.2.2.2.2.2.2.2.2.1, .int .i64 o0a.2.2.2.2.2.2.2.2.2.2.2.2.2.1, .int .i64 o0a.2.2.2.2.2.2.2.2.2.2.2.2.2.2.1, .int .i64 o0a.2.2.2.2.2.2.2.2.2.2.2.2.2.2.2.1, .int .i64 o0a.2.2.2.2.2.2.2.2.2.2.2.2.2.2.2.2] :: Cl p0aa 115 [.pointer (some ⟨p0aaa, 0, none⟩), .nilIface, .int .i64 o0aa.1, .int .i64 o0aa.2.1, .nilIface, .int .i64 o0aa.2.2.1, .int .i64 o0aa.2.2.2, .map (some m0aah), .slice none 0 0, .slice none 0 0, .map (some m0aak)] :: Cl p0aaa 134 [.int .i64 o0aaa.1, .map (some m0aaab), .pointer (some ⟨p0aaac, 0, none⟩), .int .i64 o0aaa.2.1, .int .u64 o0aaa.2.2.1, .int .i64 o0aaa.2.2.2] :: Mp E64 m0aaab q0aaab :: Cl p0aaac 83 [.int .i64 o0aaac.1, .map (some m0aaacb), .slice A0aaacc q0aaacc.length c0aaacc, .bool o0aaac.2.1, .int .i64 o0aaac.2.2.1, .int .i64 o0aaac.2.2.2.1, .int .u64 o0aaac.2.2.2.2.1, .int .i64 o0aaac.2.2.2.2.2.1, .int .i64 o0aaac.2.2.2.2.2.2] :: Mp (Elt.slice E8) m0aaacb q0aaacb :: Bf (Elt.pair E64 (Elt.slice E8)) 158 A0aaacc c0aaacc q0aaacc :: Mp E64 m0aah q0aah :: Mp E64 m0aak q0aak :: Bf (Elt.pair (Elt.pair E64 (Elt.pair (Elt.slice E8) (Elt.slice E8))) EBool) 102 A0b c0b q0b :: hs) rfl ?_
   obtain ⟨r1, hg1, he1⟩ := inv_bind he1
   refine T.call .list (wants0 rfl) rfl (run_callB (first := [.agg #[.pointer (some ⟨p0, 0, none⟩)]]) (vs := [_]) (args := [.agg #[.pointer (some ⟨p0, 0, none⟩)], _]) rfl rfl Try.func21 rfl (by decide) rfl rfl) (fun w hS => view_notes_of.c hS (o0s0a := (o0a.1, o0a.2.1, o0a.2.2.1, o0a.2.2.2.1, o0a.2.2.2.2.1, o0a.2.2.2.2.2.1, o0a.2.2.2.2.2.2.1, o0a.2.2.2.2.2.2.2.1, o0a.2.2.2.2.2.2.2.2.1, o0a.2.2.2.2.2.2.2.2.2.1, o0a.2.2.2.2.2.2.2.2.2.2.1, o0a.2.2.2.2.2.2.2.2.2.2.2.1, o0a.2.2.2.2.2.2.2.2.2.2.2.2.1, o0a.2.2.2.2.2.2.2.2.2.2.2.2.2.1, o0a.2.2.2.2.2.2.2.2.2.2.2.2.2.2.1, o0a.2.2.2.2.2.2.2.2.2.2.2.2.2.2.2.1, o0a.2.2.2.2.2.2.2.2.2.2.2.2.2.2.2.2)) (o0s0aa := (o0aa.1, o0aa.2.1, o0aa.2.2.1, o0aa.2.2.2)) (o0s0aaa := (o0aaa.1, o0aaa.2.1, o0aaa.2.2.1, o0aaa.2.2.2)) (q0s0aaab := q0aaab) (o0s0aaac := (o0aaac.1, o0aaac.2.1, o0aaac.2.2.1, o0aaac.2.2.2.1, o0aaac.2.2.2.2.1, o0aaac.2.2.2.2.2.1, o0aaac.2.2.2.2.2.2)) (q0s0aaacb := q0aaacb) (q0s0aaacc := q0aaacc) (q0s0aah := q0aah) (q0s0aak := q0aak) (q0s0b := q0b)  hg1) (fun x3 => ?_)
   refine T.move .list rfl (wants0 rfl) rfl rfl ?_
   refine T.extract .list rfl (wants0 rfl) rfl rfl rfl ?_
   refine T.extract .list rfl (wants0 rfl) rfl rfl rfl ?_
   refine T.extract .list rfl (wants0 rfl) rfl rfl rfl ?_
   refine T.assign .list rfl (wants0 rfl) rfl rfl ?_
   refine T.assign .list rfl (wants0 rfl) rfl rfl ?_
   refine T.assign .list rfl (wants0 rfl) rfl rfl ?_
   refine T.nil ?_
   refine T.then_normal ?_
   refine T.seq ?_
   refine T.seq ?_
   refine T.region ?_
   refine T.move .list rfl (wants0 rfl) rfl rfl ?_
   refine T.bin .list rfl (wants0 rfl) rfl rfl rfl rfl ?_
   refine T.nil ?_
   refine T.then_normal ?_
   refine T.cond rfl (fun hb2 => ?_) (fun hb2 => ?_)
   ·replace he1 := inv_posB hb2 he1
    refine T.seq ?_
    refine T.region ?_
    refine T.move .list rfl (wants0 rfl) rfl rfl ?_
    refine T.assign .list rfl (wants0 rfl) rfl rfl ?_
    refine T.assign .list rfl (wants0 rfl) rfl rfl ?_
    refine T.assign .list rfl (wants0 rfl) rfl rfl ?_
    refine T.nil ?_
    refine T.then_normal ?_
    refine T.ret ?_
    refine T.then_ret ?_
    refine T.in_ret ?_
    refine T.then_ret ?_
    refine T.then_ret ?_
    obtain rfl := inv_some he1
    obtain rfl := hx1 _ rfl
    refine T.in_ret ?_
    refine T.then_ret ?_
    obtain rfl := inv_some hr
    refine T.pick [0, 1, 2, 3, 4, 5, 6, 7, 8, 9, 10] 11 rfl rfl (Nat.le_add_left _ _) rfl ?_
    refine T.ret3 rfl rfl rfl rfl (fun w hS => ⟨(), rfl, hS⟩)
   ·replace he1 := inv_negB hb2 he1
    refine T.skip ?_
    refine T.then_normal ?_
    refine T.seqJ (fun (s3 : Bool) (x4 : Unit) => [(5, .func (.func 21) #[.agg #[.pointer (some ⟨p0, 0, none⟩)]] #[]), (6, .int .i64 s2.1), (7, .bool s2.2.1), (9, .int .i64 r1.1), (17, .int .i64 s2.2.2), (39, .bool s3)]) (fun s3 x4 => Cl p0 99 [.pointer (some ⟨p0a, 0, none⟩), .slice A0b q0b.length c0b] :: Cl p0a 89 [.pointer (some ⟨p0aa, 0, none⟩), .int .i64 o0a.1, .int .i64 o0a.2.1, .int .i64 o0a.2.2.1, .int .i64 o0a.2.2.2.1, .int .i64 o0a.2.2.2.2.1, .int .i64 o0a.2.2.2.2.2.1, .int .i64 o0a.2.2.2.2.2.2.1, .int .i64 o0a.2.2.2.2.2.2.2.1, .int .i64 o0a.2.2.2.2.2.2.2.2.1, .int .i64 o0a.2.2.2.2.2.2.2.2.2.1, .int .i64 o0a.2.2.2.2.2.2.2.2.2.2.1, .int .i64 o0a.2.2.2.2.2.2.2.2.2.2.2.1, .int .i64 o0a.2.2.2.2.2.2.2.2.2.2.2.2.1, .int .i64 o0a.2.2.2.2.2.2.2.2.2.2.2.2.2.1, .int .i64 o0a.2.2.2.2.2.2.2.2.2.2.2.2.2.2.1, .int .i64 o0a.2.2.2.2.2.2.2.2.2.2.2.2.2.2.2.1, .int .i64 o0a.2.2.2.2.2.2.2.2.2.2.2.2.2.2.2.2] :: Cl p0aa 115 [.pointer (some ⟨p0aaa, 0, none⟩), .nilIface, .int .i64 o0aa.1, .int .i64 o0aa.2.1, .nilIface, .int .i64 o0aa.2.2.1, .int .i64 o0aa.2.2.2, .map (some m0aah), .slice none 0 0, .slice none 0 0, .map (some m0aak)] :: Cl p0aaa 134 [.int .i64 o0aaa.1, .map (some m0aaab), .pointer (some ⟨p0aaac, 0, none⟩), .int .i64 o0aaa.2.1, .int .u64 o0aaa.2.2.1, .int .i64 o0aaa.2.2.2] :: Mp E64 m0aaab q0aaab :: Cl p0aaac 83 [.int .i64 o0aaac.1, .map (some m0aaacb), .slice A0aaacc q0aaacc.length c0aaacc, .bool o0aaac.2.1, .int .i64 o0aaac.2.2.1, .int .i64 o0aaac.2.2.2.1, .int .u64 o0aaac.2.2.2.2.1, .int .i64 o0aaac.2.2.2.2.2.1, .int .i64 o0aaac.2.2.2.2.2.2] :: Mp (Elt.slice E8) m0aaacb q0aaacb :: Bf (Elt.pair E64 (Elt.slice E8)) 158 A0aaacc c0aaacc q0aaacc :: Mp E64 m0aah q0aah :: Mp E64 m0aak q0aak :: Bf (Elt.pair (Elt.pair E64 (Elt.pair (Elt.slice E8) (Elt.slice E8))) EBool) 102 A0b c0b q0b :: hs) (fun s3 => view_Least.k2 r1 s2 s3 = some o1) (fun s3 x4 hk2 => ?_) (fun J2 => ?_)
    ·unfold view_Least.k2 at hk2
     refine T.cond rfl (fun hb3 => ?_) (fun hb3 => ?_)
     ·replace hk2 := inv_posB hb3 hk2
      refine T.region ?_
      refine T.move .list rfl (wants0 rfl) rfl rfl ?_
      refine T.assign .list rfl (wants0 rfl) rfl rfl ?_
      refine T.assign .list rfl (wants0 rfl) rfl rfl ?_
      refine T.nil ?_
      refine T.in_normal ?_
      refine T.then_normal ?_
      refine T.region ?_
      refine T.bin .list rfl (wants0 rfl) rfl rfl rfl rfl ?_
      refine T.move .list rfl (wants0 rfl) rfl rfl ?_
      refine T.nil ?_
      refine T.then_normal ?_
      obtain rfl := inv_some hk2
      exact T.le (EnvLe.cons rfl (EnvLe.cons rfl (EnvLe.cons rfl (EnvLe.cons rfl EnvLe.nil)))) (T.pick [0, 1, 2, 3, 4, 5, 6, 7, 8, 9, 10] 11 rfl rfl (Nat.le_add_left _ _) rfl (hm1 (r1.1, true, IntKind.i64.wrap (s2.2.2 + 1)) rfl ()))
     ·replace hk2 := inv_negB hb3 hk2
      refine T.skip ?_
      refine T.in_normal ?_
      refine T.then_normal ?_
      refine T.region ?_
      refine T.bin .list rfl (wants0 rfl) rfl rfl rfl rfl ?_
      refine T.move .list rfl (wants0 rfl) rfl rfl ?_
      refine T.nil ?_
      refine T.then_normal ?_
      obtain rfl := inv_some hk2
      exact T.le (EnvLe.cons rfl (EnvLe.cons rfl (EnvLe.cons rfl (EnvLe.cons rfl EnvLe.nil)))) (T.pick [0, 1, 2, 3, 4, 5, 6, 7, 8, 9, 10] 11 rfl rfl (Nat.le_add_left _ _) rfl (hm1 (s2.1, s2.2.1, IntKind.i64.wrap (s2.2.2 + 1)) rfl ()))
    ·refine T.region ?_
     refine T.move .list rfl (wants0 rfl) rfl rfl ?_
     refine T.move .list rfl (wants0 rfl) rfl rfl ?_
     refine T.bool (b := r1.2.1) (fun hb4 => ?_) (fun hb4 => ?_)
     ·replace he1 := inv_posB hb4 he1
      refine T.move .list rfl (wants1 rfl rfl rfl hb4) rfl rfl ?_
      refine T.not .list rfl (wants1 rfl rfl rfl hb4) rfl rfl ?_
      refine T.move .list rfl (wants1 rfl rfl rfl hb4) rfl rfl ?_
      refine T.bool (b := s2.2.1) (fun hb5 => ?_) (fun hb5 => ?_)
      ·replace he1 := inv_posB hb5 he1
       refine T.move .list rfl (wants1 rfl rfl rfl (not_t hb5)) rfl rfl ?_
       refine T.move .list rfl (wants1 rfl rfl rfl (not_t hb5)) rfl rfl ?_
       refine T.bin .list rfl (wants1 rfl rfl rfl (not_t hb5)) rfl rfl rfl rfl ?_
       refine T.pickF .list rfl (wants1 rfl rfl rfl hb4) rfl rfl (not_t hb5) rfl ?_
       refine T.pickT .list rfl (wants0 rfl) rfl rfl hb4 rfl ?_
       refine T.nil ?_
       refine T.then_normal ?_
       exact T.le (EnvLe.cons rfl (EnvLe.cons rfl (EnvLe.cons rfl (EnvLe.cons rfl (EnvLe.cons rfl (EnvLe.cons rfl EnvLe.nil)))))) (T.pick [0, 1, 2, 3, 4, 5, 6, 7, 8, 9, 10] 11 rfl rfl (Nat.le_add_left _ _) rfl (J2 (decide (r1.1 < s2.1)) () he1))
      ·replace he1 := inv_negB hb5 he1
       refine T.leave .list (wantsNot rfl rfl rfl (not_f hb5)) rfl ?_
       refine T.leave .list (wantsNot rfl rfl rfl (not_f hb5)) rfl ?_
       refine T.leave .list (wantsNot rfl rfl rfl (not_f hb5)) rfl ?_
       refine T.pickT .list rfl (wants1 rfl rfl rfl hb4) rfl rfl (not_f hb5) rfl ?_
       refine T.pickT .list rfl (wants0 rfl) rfl rfl hb4 rfl ?_
       refine T.nil ?_
       refine T.then_normal ?_
       exact T.le (EnvLe.cons rfl (EnvLe.cons rfl (EnvLe.cons rfl (EnvLe.cons rfl (EnvLe.cons rfl (EnvLe.cons rfl EnvLe.nil)))))) (T.pick [0, 1, 2, 3, 4, 5, 6, 7, 8, 9, 10] 11 rfl rfl (Nat.le_add_left _ _) rfl (J2 true () he1))
     ·replace he1 := inv_negB hb4 he1
      refine T.leave .list (wantsNot rfl rfl rfl hb4) rfl ?_
      refine T.leave .list (wantsNot rfl rfl rfl hb4) rfl ?_
      refine T.leave .list (wantsNot rfl rfl rfl hb4) rfl ?_
      refine T.leave .list (wantsUndef rfl rfl rfl) rfl ?_
      refine T.leave .list (wantsUndef rfl rfl rfl) rfl ?_
      refine T.leave .list (wantsUndef rfl rfl rfl) rfl ?_
      refine T.leave .list (wantsNot rfl rfl rfl hb4) rfl ?_
      refine T.pickF .list rfl (wants0 rfl) rfl rfl hb4 rfl ?_
      refine T.nil ?_
      refine T.then_normal ?_
      exact T.le (EnvLe.cons rfl (EnvLe.cons rfl (EnvLe.cons rfl (EnvLe.cons rfl (EnvLe.cons rfl (EnvLe.cons rfl EnvLe.nil)))))) (T.pick [0, 1, 2, 3, 4, 5, 6, 7, 8, 9, 10] 11 rfl rfl (Nat.le_add_left _ _) rfl (J2 false () he1))
  ·replace he1 := inv_negB hb1 he1
   refine T.exit ?_
   refine T.then_exit ?_
   refine T.then_exit ?_
   obtain rfl := inv_some he1
   obtain rfl := hx1 _ rfl
   refine T.in_hit ?_
   refine T.then_normal ?_
   exact T.le (EnvLe.cons rfl (EnvLe.cons rfl EnvLe.nil)) (T.pick [0, 1, 2, 3, 4, 5, 6, 7, 8, 9, 10] 11 rfl rfl (Nat.le_add_left _ _) rfl (J1 (s2.1, s2.2.1) () hr))

noncomputable def view_Version.k1 (r1 : Int × Bool × Int) (s1 : Int) : Option (Int × Int) :=
  some (s1, r1.2.2)
noncomputable def view_Version.k2 (r1 : Int × Bool × Int) (s2 : Bool) : Option (Int × Int) :=
  (if s2 = true then view_Version.k1 r1 1 else view_Version.k1 r1 r1.1)
noncomputable def view_Version.impl (o0a : Int × Int × Int × Int × Int × Int × Int × Int × Int × Int × Int × Int × Int × Int × Int × Int × Int) (o0aa : Int × Int × Int × Int) (o0aaa : Int × Int × Int × Int) (q0aaab : List (Int × Int)) (o0aaac : Int × Bool × Int × Int × Int × Int × Int) (q0aaacb : List (Int × (List UInt8))) (q0aaacc : List (Int × (List UInt8))) (q0aah : List (Int × Int)) (q0aak : List (Int × Int)) (q0b : List ((Int × (List UInt8) × (List UInt8)) × Bool)) : Option (Int × Int) :=
  (view_notes_number.impl ((o0a.1, o0a.2.1, o0a.2.2.1, o0a.2.2.2.1, o0a.2.2.2.2.1, o0a.2.2.2.2.2.1, o0a.2.2.2.2.2.2.1, o0a.2.2.2.2.2.2.2.1, o0a.2.2.2.2.2.2.2.2.1, o0a.2.2.2.2.2.2.2.2.2.1, o0a.2.2.2.2.2.2.2.2.2.2.1, o0a.2.2.2.2.2.2.2.2.2.2.2.1, o0a.2.2.2.2.2.2.2.2.2.2.2.2.1, o0a.2.2.2.2.2.2.2.2.2.2.2.2.2.1, o0a.2.2.2.2.2.2.2.2.2.2.2.2.2.2.1, o0a.2.2.2.2.2.2.2.2.2.2.2.2.2.2.2.1, o0a.2.2.2.2.2.2.2.2.2.2.2.2.2.2.2.2)) ((o0aa.1, o0aa.2.1, o0aa.2.2.1, o0aa.2.2.2)) ((o0aaa.1, o0aaa.2.1, o0aaa.2.2.1, o0aaa.2.2.2)) q0aaab ((o0aaac.1, o0aaac.2.1, o0aaac.2.2.1, o0aaac.2.2.2.1, o0aaac.2.2.2.2.1, o0aaac.2.2.2.2.2.1, o0aaac.2.2.2.2.2.2)) q0aaacb q0aaacc q0aah q0aak q0b 7 0).bind fun r1 => (if ((decide (r1.2.2 = 0))) = true then view_Version.k2 r1 (!r1.2.1) else view_Version.k2 r1 false)
set_option maxRecDepth 100000 in
set_option maxHeartbeats 4000000 in
theorem view_Version.c {B : World} {hs : List MP} {w : World} {p0 : Nat} {p0a : Nat} {o0a : Int × Int × Int × Int × Int × Int × Int × Int × Int × Int × Int × Int × Int × Int × Int × Int × Int} {p0aa : Nat} {o0aa : Int × Int × Int × Int} {p0aaa : Nat} {o0aaa : Int × Int × Int × Int} {m0aaab : Nat} {q0aaab : List (Int × Int)} {p0aaac : Nat} {o0aaac : Int × Bool × Int × Int × Int × Int × Int} {m0aaacb : Nat} {q0aaacb : List (Int × (List UInt8))} {c0aaacc : Nat} {A0aaacc : Option Addr} {q0aaacc : List (Int × (List UInt8))} {m0aah : Nat} {q0aah : List (Int × Int)} {m0aak : Nat} {q0aak : List (Int × Int)} {c0b : Nat} {A0b : Option Addr} {q0b : List ((Int × (List UInt8) × (List UInt8)) × Bool)} (hS : St B (Cl p0 99 [.pointer (some ⟨p0a, 0, none⟩), .slice A0b q0b.length c0b] :: Cl p0a 89 [.pointer (some ⟨p0aa, 0, none⟩), .int .i64 o0a.1, .int .i64 o0a.2.1, .int .i64 o0a.2.2.1, .int .i64 o0a.2.2.2.1, .int .i64 o0a.2.2.2.2.1, .int .i64 o0a.2.2.2.2.2.1, .int .i64 o0a.2.2.2.2.2.2.1, .int .i64 o0a.2.2.2.2.2.2.2.1, .int .i64 o0a.2.2.2.2.2.2.2.2.1, .int .i64 o0a.2.2.2.2.2.2.2.2.2.1, .int .i64 o0a.2.2.2.2.2.2.2.2.2.2.1, .int .i64 o0a.2.2.2.2.2.2.2.2.2.2.2.1, .int .i64 o0a.2.2.2.2.2.2.2.2.2.2.2.2.1, .int .i64 o0a.2.2.2.2.2.2.2.2.2.2.2.2.2.1, .int .i64 o0a.2.2.2.2.2.2.2.2.2.2.2.2.2.2.1, .int .i64 o0a.2.2.2.2.2.2.2.2.2.2.2.2.2.2.2.1, .int .i64 o0a.2.2.2.2.2.2.2.2.2.2.2.2.2.2.2.2] :: Cl p0aa 115 [.pointer (some ⟨p0aaa, 0, none⟩), .nilIface, .int .i64 o0aa.1, .int .i64 o0aa.2.1, .nilIface, .int .i64 o0aa.2.2.1, .int .i64 o0aa.2.2.2, .map (some m0aah), .slice none 0 0, .slice none 0 0, .map (some m0aak)] :: Cl p0aaa 134 [.int .i64 o0aaa.1, .map (some m0aaab), .pointer (some ⟨p0aaac, 0, none⟩), .int .i64 o0aaa.2.1, .int .u64 o0aaa.2.2.1, .int .i64 o0aaa.2.2.2] :: Mp E64 m0aaab q0aaab :: Cl p0aaac 83 [.int .i64 o0aaac.1, .map (some m0aaacb), .slice A0aaacc q0aaacc.length c0aaacc, .bool o0aaac.2.1, .int .i64 o0aaac.2.2.1, .int .i64 o0aaac.2.2.2.1, .int .u64 o0aaac.2.2.2.2.1, .int .i64 o0aaac.2.2.2.2.2.1, .int .i64 o0aaac.2.2.2.2.2.2] :: Mp (Elt.slice E8) m0aaacb q0aaacb :: Bf (Elt.pair E64 (Elt.slice E8)) 158 A0aaacc c0aaacc q0aaacc :: Mp E64 m0aah q0aah :: Mp E64 m0aak q0aak :: Bf (Elt.pair (Elt.pair E64 (Elt.pair (Elt.slice E8) (Elt.slice E8))) EBool) 102 A0b c0b q0b :: hs) w) {r : Int × Int} (hr : view_Version.impl o0a o0aa o0aaa q0aaab o0aaac q0aaacb q0aaacc q0aah q0aak q0b = some r) :
    Calls Try.prog 10 #[.pointer (some ⟨p0, 0, none⟩)] w fun e w' => ∃ x : Unit, e = .returned (.tuple #[.int .i64 r.1, .int .i64 r.2]) ∧ St B (Cl p0 99 [.pointer (some ⟨p0a, 0, none⟩), .slice A0b q0b.length c0b] :: Cl p0a 89 [.pointer (some ⟨p0aa, 0, none⟩), .int .i64 o0a.1, .int .i64 o0a.2.1, .int .i64 o0a.2.2.1, .int .i64 o0a.2.2.2.1, .int .i64 o0a.2.2.2.2.1, .int .i64 o0a.2.2.2.2.2.1, .int .i64 o0a.2.2.2.2.2.2.1, .int .i64 o0a.2.2.2.2.2.2.2.1, .int .i64 o0a.2.2.2.2.2.2.2.2.1, .int .i64 o0a.2.2.2.2.2.2.2.2.2.1, .int .i64 o0a.2.2.2.2.2.2.2.2.2.2.1, .int .i64 o0a.2.2.2.2.2.2.2.2.2.2.2.1, .int .i64 o0a.2.2.2.2.2.2.2.2.2.2.2.2.1, .int .i64 o0a.2.2.2.2.2.2.2.2.2.2.2.2.2.1, .int .i64 o0a.2.2.2.2.2.2.2.2.2.2.2.2.2.2.1, .int .i64 o0a.2.2.2.2.2.2.2.2.2.2.2.2.2.2.2.1, .int .i64 o0a.2.2.2.2.2.2.2.2.2.2.2.2.2.2.2.2] :: Cl p0aa 115 [.pointer (some ⟨p0aaa, 0, none⟩), .nilIface, .int .i64 o0aa.1, .int .i64 o0aa.2.1, .nilIface, .int .i64 o0aa.2.2.1, .int .i64 o0aa.2.2.2, .map (some m0aah), .slice none 0 0, .slice none 0 0, .map (some m0aak)] :: Cl p0aaa 134 [.int .i64 o0aaa.1, .map (some m0aaab), .pointer (some ⟨p0aaac, 0, none⟩), .int .i64 o0aaa.2.1, .int .u64 o0aaa.2.2.1, .int .i64 o0aaa.2.2.2] :: Mp E64 m0aaab q0aaab :: Cl p0aaac 83 [.int .i64 o0aaac.1, .map (some m0aaacb), .slice A0aaacc q0aaacc.length c0aaacc, .bool o0aaac.2.1, .int .i64 o0aaac.2.2.1, .int .i64 o0aaac.2.2.2.1, .int .u64 o0aaac.2.2.2.2.1, .int .i64 o0aaac.2.2.2.2.2.1, .int .i64 o0aaac.2.2.2.2.2.2] :: Mp (Elt.slice E8) m0aaacb q0aaacb :: Bf (Elt.pair E64 (Elt.slice E8)) 158 A0aaacc c0aaacc q0aaacc :: Mp E64 m0aah q0aah :: Mp E64 m0aak q0aak :: Bf (Elt.pair (Elt.pair E64 (Elt.pair (Elt.slice E8) (Elt.slice E8))) EBool) 102 A0b c0b q0b :: hs) w' := by
 unfold view_Version.impl at hr
 refine calls_T Try.func10 rfl rfl rfl hS ?_
 refine T.seq ?_
 refine T.region ?_
 refine T.assign .list rfl (wants0 rfl) rfl rfl ?_
 refine T.assign .list rfl (wants0 rfl) rfl rfl ?_
 refine T.nil ?_
 refine T.then_normal ?_
 refine T.seq ?_
 refine T.seq ?_
 refine T.region ?_
 refine T.move .list rfl (wants0 rfl) rfl rfl ?_
 refine T.ptrEq (pt := 99) .list rfl (wants0 rfl) rfl rfl rfl (by kernel_rfl) (.inr rfl) rfl ?_
 refine T.nil ?_
 refine T.then_normal ?_
 refine T.condF rfl rfl ?_
 refine T.skip ?_
 refine T.then_normal ?_
 refine T.seq ?_
 refine T.region ?_
 refine T.move .list rfl (wants0 rfl) rfl rfl ?_
 refine T.build .list (vals := [(0, .pointer (some ⟨p0, 0, none⟩))]) (cells := #[.pointer (some ⟨p0, 0, none⟩)]) rfl (wants0 rfl) rfl rfl (run_buildStruct (sizes := [1]) (by kernel_rfl) (by kernel_rfl)) ?_
 refine T.pick [0, 1, 2, 3, 4, 5, 6, 7, 8, 9, 10] 11 rfl rfl (Nat.le_add_left _ _) (hs' := Cl p0 99 [.pointer (some ⟨p0a, 0, none⟩), .slice A0b q0b.length c0b] :: Cl p0a 89 [.pointer (some ⟨p0aa, 0, none⟩), .int .i64 o0a.1, .int .i64 o0a.2.1, .int .i64 o0a.2.2.1, .int .i64 o0a.2.2.2.1, .int .i64 o0a.2.2.2.2.1, .int .i64 o0a.2.2.2.2.2.1, .int .i64 o0a.2.2.2.2.2.2.1, .int .i64 o0a.2.2.2.2.2.2.2.1, .int .i64 o0a.2.2.2.2.2.2.2.2.1, .int .i64 o0a.2.2.2.2.2.2.2.2.2.1, .int .i64 o0a.2.2.2.2.2.2.2.2.2.2.1, .int .i64 o0a.2.2.2.2.2.2.2.2.2.2.2.1, .int .i64 o0a.2.2.2.2.2.2.2.2.2.2.2.2.1, .int .i64 o0a.2.2.2.2.2.2.2.2.2.2.2.2.2.1, .int .i64 o0a.2.2.2.2.2.2.2.2.2.2.2.2.2.2.1, .int .i64 o0a.2.2.2.2.2.2.2.2.2.2.2.2.2.2.2.1, .int .i64 o0a.2.2.2.2.2.2.2.2.2.2.2.2.2.2.2.2] :: Cl p0aa 115 [.pointer (some ⟨p0aaa, 0, none⟩), .nilIface, .int .i64 o0aa.1, .int .i64 o0aa.2.1, .nilIface, .int .i64 o0aa.2.2.1, .int .i64 o0aa.2.2.2, .map (some m0aah), .slice none 0 0, .slice none 0 0, .map (some m0aak)] :: Cl p0aaa 134 [.int .i64 o0aaa.1, .map (some m0aaab), .pointer (some ⟨p0aaac, 0, none⟩), .int .i64 o0aaa.2.1, .int .u64 o0aaa.2.2.1, .int .i64 o0aaa.2.2.2] :: Mp E64 m0aaab q0aaab :: Cl p0aaac 83 [.int .i64 o0aaac.1, .map (some m0aaacb), .slice A0aaacc q0aaacc.length c0aaacc, .bool o0aaac.2.1, .int .i64 o0aaac.2.2.1, .int .i64 o0aaac.2.2.2.1, .int .u64 o0aaac.2.2.2.2.1, .int .i64 o0aaac.2.2.2.2.2.1, .int .i64 o0aaac.2.2.2.2.2.2] :: Mp (Elt.slice E8) m0aaacb q0aaacb :: Bf (Elt.pair E64 (Elt.slice E8)) 158 A0aaacc c0aaacc q0aaacc :: Mp E64 m0aah q0aah :: Mp E64 m0aak q0aak :: Bf (Elt.pair (Elt.pair E64 (Elt.pair (Elt.slice E8) (Elt.slice E8))) EBool) 102 A0b c0b q0b :: hs) rfl ?_
 obtain ⟨r1, hg1, hr⟩ := inv_bind hr
 refine T.call .list (wants0 rfl) rfl (run_callF (vs := [_, _, _]) rfl Try.func24 rfl (by decide) rfl) (fun w hS => view_notes_number.c hS (o0s0a := (o0a.1, o0a.2.1, o0a.2.2.1, o0a.2.2.2.1, o0a.2.2.2.2.1, o0a.2.2.2.2.2.1, o0a.2.2.2.2.2.2.1, o0a.2.2.2.2.2.2.2.1, o0a.2.2.2.2.2.2.2.2.1, o0a.2.2.2.2.2.2.2.2.2.1, o0a.2.2.2.2.2.2.2.2.2.2.1, o0a.2.2.2.2.2.2.2.2.2.2.2.1, o0a.2.2.2.2.2.2.2.2.2.2.2.2.1, o0a.2.2.2.2.2.2.2.2.2.2.2.2.2.1, o0a.2.2.2.2.2.2.2.2.2.2.2.2.2.2.1, o0a.2.2.2.2.2.2.2.2.2.2.2.2.2.2.2.1, o0a.2.2.2.2.2.2.2.2.2.2.2.2.2.2.2.2)) (o0s0aa := (o0aa.1, o0aa.2.1, o0aa.2.2.1, o0aa.2.2.2)) (o0s0aaa := (o0aaa.1, o0aaa.2.1, o0aaa.2.2.1, o0aaa.2.2.2)) (q0s0aaab := q0aaab) (o0s0aaac := (o0aaac.1, o0aaac.2.1, o0aaac.2.2.1, o0aaac.2.2.2.1, o0aaac.2.2.2.2.1, o0aaac.2.2.2.2.2.1, o0aaac.2.2.2.2.2.2)) (q0s0aaacb := q0aaacb) (q0s0aaacc := q0aaacc) (q0s0aah := q0aah) (q0s0aak := q0aak) (q0s0b := q0b)  hg1) (fun x1 => ?_)
 refine T.move .list rfl (wants0 rfl) rfl rfl ?_
 refine T.extract .list rfl (wants0 rfl) rfl rfl rfl ?_
 refine T.extract .list rfl (wants0 rfl) rfl rfl rfl ?_
 refine T.extract .list rfl (wants0 rfl) rfl rfl rfl ?_
 refine T.assign .list rfl (wants0 rfl) rfl rfl ?_
 refine T.assign .list rfl (wants0 rfl) rfl rfl ?_
 refine T.assign .list rfl (wants0 rfl) rfl rfl ?_
 refine T.nil ?_
 refine T.then_normal ?_
 refine T.seqJ (fun (s1 : Int) (x2 : Unit) => [(4, .int .i64 s1), (6, .int .i64 r1.2.2)]) (fun s1 x2 => Cl p0 99 [.pointer (some ⟨p0a, 0, none⟩), .slice A0b q0b.length c0b] :: Cl p0a 89 [.pointer (some ⟨p0aa, 0, none⟩), .int .i64 o0a.1, .int .i64 o0a.2.1, .int .i64 o0a.2.2.1, .int .i64 o0a.2.2.2.1, .int .i64 o0a.2.2.2.2.1, .int .i64 o0a.2.2.2.2.2.1, .int .i64 o0a.2.2.2.2.2.2.1, .int .i64 o0a.2.2.2.2.2.2.2.1, .int .i64 o0a.2.2.2.2.2.2.2.2.1, .int .i64 o0a.2.2.2.2.2.2.2.2.2.1, .int .i64 o0a.2.2.2.2.2.2.2.2.2.2.1, .int .i64 o0a.2.2.2.2.2.2.2.2.2.2.2.1, .int .i64 o0a.2.2.2.2.2.2.2.2.2.2.2.2.1, .int .i64 o0a.2.2.2.2.2.2.2.2.2.2.2.2.2.1, .int .i64 o0a.2.2.2.2.2.2.2.2.2.2.2.2.2.2.1, .int .i64 o0a.2.2.2.2.2.2.2.2.2.2.2.2.2.2.2.1, .int .i64 o0a.2.2.2.2.2.2.2.2.2.2.2.2.2.2.2.2] :: Cl p0aa 115 [.pointer (some ⟨p0aaa, 0, none⟩), .nilIface, .int .i64 o0aa.1, .int .i64 o0aa.2.1, .nilIface, .int .i64 o0aa.2.2.1, .int .i64 o0aa.2.2.2, .map (some m0aah), .slice none 0 0, .slice none 0 0, .map (some m0aak)] :: Cl p0aaa 134 [.int .i64 o0aaa.1, .map (some m0aaab), .pointer (some ⟨p0aaac, 0, none⟩), .int .i64 o0aaa.2.1, .int .u64 o0aaa.2.2.1, .int .i64 o0aaa.2.2.2] :: Mp E64 m0aaab q0aaab :: Cl p0aaac 83 [.int .i64 o0aaac.1, .map (some m0aaacb), .slice A0aaacc q0aaacc.length c0aaacc, .bool o0aaac.2.1, .int .i64 o0aaac.2.2.1, .int .i64 o0aaac.2.2.2.1, .int .u64 o0aaac.2.2.2.2.1, .int .i64 o0aaac.2.2.2.2.2.1, .int .i64 o0aaac.2.2.2.2.2.2] :: Mp (Elt.slice E8) m0aaacb q0aaacb :: Bf (Elt.pair E64 (Elt.slice E8)) 158 A0aaacc c0aaacc q0aaacc :: Mp E64 m0aah q0aah :: Mp E64 m0aak q0aak :: Bf (Elt.pair (Elt.pair E64 (Elt.pair (Elt.slice E8) (Elt.slice E8))) EBool) 102 A0b c0b q0b :: hs) (fun s1 => view_Version.k1 r1 s1 = some r) (fun s1 x2 hk1 => ?_) (fun J1 => ?_)
 ·unfold view_Version.k1 at hk1
  refine T.seq ?_
  refine T.region ?_
  refine T.move .list rfl (wants0 rfl) rfl rfl ?_
  refine T.move .list rfl (wants0 rfl) rfl rfl ?_
  refine T.assign .list rfl (wants0 rfl) rfl rfl ?_
  refine T.assign .list rfl (wants0 rfl) rfl rfl ?_
  refine T.nil ?_
  refine T.then_normal ?_
  refine T.ret ?_
  obtain rfl := inv_some hk1
  refine T.pick [0, 1, 2, 3, 4, 5, 6, 7, 8, 9, 10] 11 rfl rfl (Nat.le_add_left _ _) rfl ?_
  refine T.ret2 rfl rfl rfl (fun w hS => ⟨(), rfl, hS⟩)
 ·refine T.seqJ (fun (s2 : Bool) (x3 : Unit) => [(4, .int .i64 r1.1), (6, .int .i64 r1.2.2), (21, .bool s2)]) (fun s2 x3 => Cl p0 99 [.pointer (some ⟨p0a, 0, none⟩), .slice A0b q0b.length c0b] :: Cl p0a 89 [.pointer (some ⟨p0aa, 0, none⟩), .int .i64 o0a.1, .int .i64 o0a.2.1, .int .i64 o0a.2.2.1, .int .i64 o0a.2.2.2.1, .int .i64 o0a.2.2.2.2.1, .int .i64 o0a.2.2.2.2.2.1, .int .i64 o0a.2.2.2.2.2.2.1, .int .i64 o0a.2.2.2.2.2.2.2.1, .int .i64 o0a.2.2.2.2.2.2.2.2.1, .int .i64 o0a.2.2.2.2.2.2.2.2.2.1, .int .i64 o0a.2.2.2.2.2.2.2.2.2.2.1, .int .i64 o0a.2.2.2.2.2.2.2.2.2.2.2.1, .int .i64 o0a.2.2.2.2.2.2.2.2.2.2.2.2.1, .int .i64 o0a.2.2.2.2.2.2.2.2.2.2.2.2.2.1, .int .i64 o0a.2.2.2.2.2.2.2.2.2.2.2.2.2.2.1, .int .i64 o0a.2.2.2.2.2.2.2.2.2.2.2.2.2.2.2.1, .int .i64 o0a.2.2.2.2.2.2.2.2.2.2.2.2.2.2.2.2] :: Cl p0aa 115 [.pointer (some ⟨p0aaa, 0, none⟩), .nilIface, .int .i64 o0aa.1, .int .i64 o0aa.2.1, .nilIface, .int .i64 o0aa.2.2.1, .int .i64 o0aa.2.2.2, .map (some m0aah), .slice none 0 0, .slice none 0 0, .map (some m0aak)] :: Cl p0aaa 134 [.int .i64 o0aaa.1, .map (some m0aaab), .pointer (some ⟨p0aaac, 0, none⟩), .int .i64 o0aaa.2.1, .int .u64 o0aaa.2.2.1, .int .i64 o0aaa.2.2.2] :: Mp E64 m0aaab q0aaab :: Cl p0aaac 83 [.int .i64 o0aaac.1, .map (some m0aaacb), .slice A0aaacc q0aaacc.length c0aaacc, .bool o0aaac.2.1, .int .i64 o0aaac.2.2.1, .int .i64 o0aaac.2.2.2.1, .int .u64 o0aaac.2.2.2.2.1, .int .i64 o0aaac.2.2.2.2.2.1, .int .i64 o0aaac.2.2.2.2.2.2] :: Mp (Elt.slice E8) m0aaacb q0aaacb :: Bf (Elt.pair E64 (Elt.slice E8)) 158 A0aaacc c0aaacc q0aaacc :: Mp E64 m0aah q0aah :: Mp E64 m0aak q0aak :: Bf (Elt.pair (Elt.pair E64 (Elt.pair (Elt.slice E8) (Elt.slice E8))) EBool) 102 A0b c0b q0b :: hs) (fun s2 => view_Version.k2 r1 s2 = some r) (fun s2 x3 hk2 => ?_) (fun J2 => ?_)
  ·unfold view_Version.k2 at hk2
   refine T.cond rfl (fun hb1 => ?_) (fun hb1 => ?_)
   ·replace hk2 := inv_posB hb1 hk2
    refine T.region ?_
    refine T.assign .list rfl (wants0 rfl) rfl rfl ?_
    refine T.nil ?_
    refine T.then_normal ?_
    exact T.le (EnvLe.cons rfl (EnvLe.cons rfl EnvLe.nil)) (T.pick [0, 1, 2, 3, 4, 5, 6, 7, 8, 9, 10] 11 rfl rfl (Nat.le_add_left _ _) rfl (J1 1 () hk2))
   ·replace hk2 := inv_negB hb1 hk2
    refine T.skip ?_
    refine T.then_normal ?_
    exact T.le (EnvLe.cons rfl (EnvLe.cons rfl EnvLe.nil)) (T.pick [0, 1, 2, 3, 4, 5, 6, 7, 8, 9, 10] 11 rfl rfl (Nat.le_add_left _ _) rfl (J1 r1.1 () hk2))
  ·refine T.region ?_
   refine T.move .list rfl (wants0 rfl) rfl rfl ?_
   refine T.bin .list rfl (wants0 rfl) rfl rfl rfl rfl ?_
   refine T.move .list rfl (wants0 rfl) rfl rfl ?_
   refine T.bool (b := (decide (r1.2.2 = 0))) (fun hb2 => ?_) (fun hb2 => ?_)
   ·replace hr := inv_posB hb2 hr
    refine T.move .list rfl (wants1 rfl rfl rfl hb2) rfl rfl ?_
    refine T.not .list rfl (wants1 rfl rfl rfl hb2) rfl rfl ?_
    refine T.pickT .list rfl (wants0 rfl) rfl rfl hb2 rfl ?_
    refine T.nil ?_
    refine T.then_normal ?_
    exact T.le (EnvLe.cons rfl (EnvLe.cons rfl (EnvLe.cons rfl EnvLe.nil))) (T.pick [0, 1, 2, 3, 4, 5, 6, 7, 8, 9, 10] 11 rfl rfl (Nat.le_add_left _ _) rfl (J2 (!r1.2.1) () hr))
   ·replace hr := inv_negB hb2 hr
    refine T.leave .list (wantsNot rfl rfl rfl hb2) rfl ?_
    refine T.leave .list (wantsNot rfl rfl rfl hb2) rfl ?_
    refine T.pickF .list rfl (wants0 rfl) rfl rfl hb2 rfl ?_
    refine T.nil ?_
    refine T.then_normal ?_
    exact T.le (EnvLe.cons rfl (EnvLe.cons rfl (EnvLe.cons rfl EnvLe.nil))) (T.pick [0, 1, 2, 3, 4, 5, 6, 7, 8, 9, 10] 11 rfl rfl (Nat.le_add_left _ _) rfl (J2 false () hr))

noncomputable def view_Raise.k1 (r1 : Int × Int) (q0b : List ((Int × (List UInt8) × (List UInt8)) × Bool)) (a1 : Int) (o0a : Int × Int × Int × Int × Int × Int × Int × Int × Int × Int × Int × Int × Int × Int × Int × Int × Int) (o0aa : Int × Int × Int × Int) (o0aaa : Int × Int × Int × Int) (q0aaab : List (Int × Int)) (o0aaac : Int × Bool × Int × Int × Int × Int × Int) (q0aaacb : List (Int × (List UInt8))) (q0aaacc : List (Int × (List UInt8))) (q0aah : List (Int × Int)) (q0aak : List (Int × Int)) (s1 : Bool) : Option (Bool × Int × (List ((Int × (List UInt8) × (List UInt8)) × Bool))) :=
  (if s1 = true then some (false, r1.2, q0b) else (wire_Uint.impl a1).bind fun r2 => (draft_Draft_Put.impl ((o0a.1, o0a.2.1, o0a.2.2.1, o0a.2.2.2.1, o0a.2.2.2.2.1, o0a.2.2.2.2.2.1, o0a.2.2.2.2.2.2.1, o0a.2.2.2.2.2.2.2.1, o0a.2.2.2.2.2.2.2.2.1, o0a.2.2.2.2.2.2.2.2.2.1, o0a.2.2.2.2.2.2.2.2.2.2.1, o0a.2.2.2.2.2.2.2.2.2.2.2.1, o0a.2.2.2.2.2.2.2.2.2.2.2.2.1, o0a.2.2.2.2.2.2.2.2.2.2.2.2.2.1, o0a.2.2.2.2.2.2.2.2.2.2.2.2.2.2.1, o0a.2.2.2.2.2.2.2.2.2.2.2.2.2.2.2.1, o0a.2.2.2.2.2.2.2.2.2.2.2.2.2.2.2.2)) ((o0aa.1, o0aa.2.1, o0aa.2.2.1, o0aa.2.2.2)) ((o0aaa.1, o0aaa.2.1, o0aaa.2.2.1, o0aaa.2.2.2)) q0aaab ((o0aaac.1, o0aaac.2.1, o0aaac.2.2.1, o0aaac.2.2.2.1, o0aaac.2.2.2.2.1, o0aaac.2.2.2.2.2.1, o0aaac.2.2.2.2.2.2)) q0aaacb q0aaacc q0aah q0aak q0b 7 (([(0 : UInt8)] : List UInt8)) r2).bind fun r3 => some ((decide (r3.1 = 0)), r3.1, r3.2))
noncomputable def view_Raise.impl (o0a : Int × Int × Int × Int × Int × Int × Int × Int × Int × Int × Int × Int × Int × Int × Int × Int × Int) (o0aa : Int × Int × Int × Int) (o0aaa : Int × Int × Int × Int) (q0aaab : List (Int × Int)) (o0aaac : Int × Bool × Int × Int × Int × Int × Int) (q0aaacb : List (Int × (List UInt8))) (q0aaacc : List (Int × (List UInt8))) (q0aah : List (Int × Int)) (q0aak : List (Int × Int)) (q0b : List ((Int × (List UInt8) × (List UInt8)) × Bool)) (a1 : Int) : Option (Bool × Int × (List ((Int × (List UInt8) × (List UInt8)) × Bool))) :=
  (view_Version.impl ((o0a.1, o0a.2.1, o0a.2.2.1, o0a.2.2.2.1, o0a.2.2.2.2.1, o0a.2.2.2.2.2.1, o0a.2.2.2.2.2.2.1, o0a.2.2.2.2.2.2.2.1, o0a.2.2.2.2.2.2.2.2.1, o0a.2.2.2.2.2.2.2.2.2.1, o0a.2.2.2.2.2.2.2.2.2.2.1, o0a.2.2.2.2.2.2.2.2.2.2.2.1, o0a.2.2.2.2.2.2.2.2.2.2.2.2.1, o0a.2.2.2.2.2.2.2.2.2.2.2.2.2.1, o0a.2.2.2.2.2.2.2.2.2.2.2.2.2.2.1, o0a.2.2.2.2.2.2.2.2.2.2.2.2.2.2.2.1, o0a.2.2.2.2.2.2.2.2.2.2.2.2.2.2.2.2)) ((o0aa.1, o0aa.2.1, o0aa.2.2.1, o0aa.2.2.2)) ((o0aaa.1, o0aaa.2.1, o0aaa.2.2.1, o0aaa.2.2.2)) q0aaab ((o0aaac.1, o0aaac.2.1, o0aaac.2.2.1, o0aaac.2.2.2.1, o0aaac.2.2.2.2.1, o0aaac.2.2.2.2.2.1, o0aaac.2.2.2.2.2.2)) q0aaacb q0aaacc q0aah q0aak q0b).bind fun r1 => (if ((decide (r1.2 = 0))) = true then (if ((decide (r1.1 = 1))) = true then view_Raise.k1 r1 q0b a1 o0a o0aa o0aaa q0aaab o0aaac q0aaacb q0aaacc q0aah q0aak (!(decide (a1 = 2))) else view_Raise.k1 r1 q0b a1 o0a o0aa o0aaa q0aaab o0aaac q0aaacb q0aaacc q0aah q0aak true) else view_Raise.k1 r1 q0b a1 o0a o0aa o0aaa q0aaab o0aaac q0aaacb q0aaacc q0aah q0aak true)
set_option maxRecDepth 100000 in
set_option maxHeartbeats 4000000 in
theorem view_Raise.c {B : World} {hs : List MP} {w : World} {p0 : Nat} {p0a : Nat} {o0a : Int × Int × Int × Int × Int × Int × Int × Int × Int × Int × Int × Int × Int × Int × Int × Int × Int} {p0aa : Nat} {o0aa : Int × Int × Int × Int} {p0aaa : Nat} {o0aaa : Int × Int × Int × Int} {m0aaab : Nat} {q0aaab : List (Int × Int)} {p0aaac : Nat} {o0aaac : Int × Bool × Int × Int × Int × Int × Int} {m0aaacb : Nat} {q0aaacb : List (Int × (List UInt8))} {c0aaacc : Nat} {A0aaacc : Option Addr} {q0aaacc : List (Int × (List UInt8))} {m0aah : Nat} {q0aah : List (Int × Int)} {m0aak : Nat} {q0aak : List (Int × Int)} {c0b : Nat} {A0b : Option Addr} {q0b : List ((Int × (List UInt8) × (List UInt8)) × Bool)} {a1 : Int} (hS : St B (Cl p0 99 [.pointer (some ⟨p0a, 0, none⟩), .slice A0b q0b.length c0b] :: Cl p0a 89 [.pointer (some ⟨p0aa, 0, none⟩), .int .i64 o0a.1, .int .i64 o0a.2.1, .int .i64 o0a.2.2.1, .int .i64 o0a.2.2.2.1, .int .i64 o0a.2.2.2.2.1, .int .i64 o0a.2.2.2.2.2.1, .int .i64 o0a.2.2.2.2.2.2.1, .int .i64 o0a.2.2.2.2.2.2.2.1, .int .i64 o0a.2.2.2.2.2.2.2.2.1, .int .i64 o0a.2.2.2.2.2.2.2.2.2.1, .int .i64 o0a.2.2.2.2.2.2.2.2.2.2.1, .int .i64 o0a.2.2.2.2.2.2.2.2.2.2.2.1, .int .i64 o0a.2.2.2.2.2.2.2.2.2.2.2.2.1, .int .i64 o0a.2.2.2.2.2.2.2.2.2.2.2.2.2.1, .int .i64 o0a.2.2.2.2.2.2.2.2.2.2.2.2.2.2.1, .int .i64 o0a.2.2.2.2.2.2.2.2.2.2.2.2.2.2.2.1, .int .i64 o0a.2.2.2.2.2.2.2.2.2.2.2.2.2.2.2.2] :: Cl p0aa 115 [.pointer (some ⟨p0aaa, 0, none⟩), .nilIface, .int .i64 o0aa.1, .int .i64 o0aa.2.1, .nilIface, .int .i64 o0aa.2.2.1, .int .i64 o0aa.2.2.2, .map (some m0aah), .slice none 0 0, .slice none 0 0, .map (some m0aak)] :: Cl p0aaa 134 [.int .i64 o0aaa.1, .map (some m0aaab), .pointer (some ⟨p0aaac, 0, none⟩), .int .i64 o0aaa.2.1, .int .u64 o0aaa.2.2.1, .int .i64 o0aaa.2.2.2] :: Mp E64 m0aaab q0aaab :: Cl p0aaac 83 [.int .i64 o0aaac.1, .map (some m0aaacb), .slice A0aaacc q0aaacc.length c0aaacc, .bool o0aaac.2.1, .int .i64 o0aaac.2.2.1, .int .i64 o0aaac.2.2.2.1, .int .u64 o0aaac.2.2.2.2.1, .int .i64 o0aaac.2.2.2.2.2.1, .int .i64 o0aaac.2.2.2.2.2.2] :: Mp (Elt.slice E8) m0aaacb q0aaacb :: Bf (Elt.pair E64 (Elt.slice E8)) 158 A0aaacc c0aaacc q0aaacc :: Mp E64 m0aah q0aah :: Mp E64 m0aak q0aak :: Bf (Elt.pair (Elt.pair E64 (Elt.pair (Elt.slice E8) (Elt.slice E8))) EBool) 102 A0b c0b q0b :: hs) w) {r : Bool × Int × (List ((Int × (List UInt8) × (List UInt8)) × Bool))} (hr : view_Raise.impl o0a o0aa o0aaa q0aaab o0aaac q0aaacb q0aaacc q0aah q0aak q0b a1 = some r) :
    Calls Try.prog 11 #[.pointer (some ⟨p0, 0, none⟩), .int .i64 a1] w fun e w' => ∃ x : (Option Addr × Nat), e = .returned (.tuple #[.bool r.1, .int .i64 r.2.1]) ∧ St B (Cl p0 99 [.pointer (some ⟨p0a, 0, none⟩), .slice x.1 r.2.2.length x.2] :: Cl p0a 89 [.pointer (some ⟨p0aa, 0, none⟩), .int .i64 o0a.1, .int .i64 o0a.2.1, .int .i64 o0a.2.2.1, .int .i64 o0a.2.2.2.1, .int .i64 o0a.2.2.2.2.1, .int .i64 o0a.2.2.2.2.2.1, .int .i64 o0a.2.2.2.2.2.2.1, .int .i64 o0a.2.2.2.2.2.2.2.1, .int .i64 o0a.2.2.2.2.2.2.2.2.1, .int .i64 o0a.2.2.2.2.2.2.2.2.2.1, .int .i64 o0a.2.2.2.2.2.2.2.2.2.2.1, .int .i64 o0a.2.2.2.2.2.2.2.2.2.2.2.1, .int .i64 o0a.2.2.2.2.2.2.2.2.2.2.2.2.1, .int .i64 o0a.2.2.2.2.2.2.2.2.2.2.2.2.2.1, .int .i64 o0a.2.2.2.2.2.2.2.2.2.2.2.2.2.2.1, .int .i64 o0a.2.2.2.2.2.2.2.2.2.2.2.2.2.2.2.1, .int .i64 o0a.2.2.2.2.2.2.2.2.2.2.2.2.2.2.2.2] :: Cl p0aa 115 [.pointer (some ⟨p0aaa, 0, none⟩), .nilIface, .int .i64 o0aa.1, .int .i64 o0aa.2.1, .nilIface, .int .i64 o0aa.2.2.1, .int .i64 o0aa.2.2.2, .map (some m0aah), .slice none 0 0, .slice none 0 0, .map (some m0aak)] :: Cl p0aaa 134 [.int .i64 o0aaa.1, .map (some m0aaab), .pointer (some ⟨p0aaac, 0, none⟩), .int .i64 o0aaa.2.1, .int .u64 o0aaa.2.2.1, .int .i64 o0aaa.2.2.2] :: Mp E64 m0aaab q0aaab :: Cl p0aaac 83 [.int .i64 o0aaac.1, .map (some m0aaacb), .slice A0aaacc q0aaacc.length c0aaacc, .bool o0aaac.2.1, .int .i64 o0aaac.2.2.1, .int .i64 o0aaac.2.2.2.1, .int .u64 o0aaac.2.2.2.2.1, .int .i64 o0aaac.2.2.2.2.2.1, .int .i64 o0aaac.2.2.2.2.2.2] :: Mp (Elt.slice E8) m0aaacb q0aaacb :: Bf (Elt.pair E64 (Elt.slice E8)) 158 A0aaacc c0aaacc q0aaacc :: Mp E64 m0aah q0aah :: Mp E64 m0aak q0aak :: Bf (Elt.pair (Elt.pair E64 (Elt.pair (Elt.slice E8) (Elt.slice E8))) EBool) 102 x.1 x.2 r.2.2 :: hs) w' := by
 unfold view_Raise.impl at hr
 refine calls_T Try.func11 rfl rfl rfl hS ?_
 refine T.seq ?_
 refine T.region ?_
 refine T.assign .list rfl (wants0 rfl) rfl rfl ?_
 refine T.assign .list rfl (wants0 rfl) rfl rfl ?_
 refine T.nil ?_
 refine T.then_normal ?_
 refine T.seq ?_
 refine T.region ?_
 refine T.move .list rfl (wants0 rfl) rfl rfl ?_
 refine T.pick [0, 1, 2, 3, 4, 5, 6, 7, 8, 9, 10] 11 rfl rfl (Nat.le_add_left _ _) (hs' := Cl p0 99 [.pointer (some ⟨p0a, 0, none⟩), .slice A0b q0b.length c0b] :: Cl p0a 89 [.pointer (some ⟨p0aa, 0, none⟩), .int .i64 o0a.1, .int .i64 o0a.2.1, .int .i64 o0a.2.2.1, .int .i64 o0a.2.2.2.1, .int .i64 o0a.2.2.2.2.1, .int .i64 o0a.2.2.2.2.2.1, .int .i64 o0a.2.2.2.2.2.2.1, .int .i64 o0a.2.2.2.2.2.2.2.1, .int .i64 o0a.2.2.2.2.2.2.2.2.1, .int .i64 o0a.2.2.2.2.2.2.2.2.2.1, .int .i64 o0a.2.2.2.2.2.2.2.2.2.2.1, .int .i64 o0a.2.2.2.2.2.2.2.2.2.2.2.1, .int .i64 o0a.2.2.2.2.2.2.2.2.2.2.2.2.1, .int .i64 o0a.2.2.2.2.2.2.2.2.2.2.2.2.2.1, .int .i64 o0a.2.2.2.2.2.2.2.2.2.2.2.2.2.2.1, .int .i64 o0a.2.2.2.2.2.2.2.2.2.2.2.2.2.2.2.1, .int .i64 o0a.2.2.2.2.2.2.2.2.2.2.2.2.2.2.2.2] :: Cl p0aa 115 [.pointer (some ⟨p0aaa, 0, none⟩), .nilIface, .int .i64 o0aa.1, .int .i64 o0aa.2.1, .nilIface, .int .i64 o0aa.2.2.1, .int .i64 o0aa.2.2.2, .map (some m0aah), .slice none 0 0, .slice none 0 0, .map (some m0aak)] :: Cl p0aaa 134 [.int .i64 o0aaa.1, .map (some m0aaab), .pointer (some ⟨p0aaac, 0, none⟩), .int .i64 o0aaa.2.1, .int .u64 o0aaa.2.2.1, .int .i64 o0aaa.2.2.2] :: Mp E64 m0aaab q0aaab :: Cl p0aaac 83 [.int .i64 o0aaac.1, .map (some m0aaacb), .slice A0aaacc q0aaacc.length c0aaacc, .bool o0aaac.2.1, .int .i64 o0aaac.2.2.1, .int .i64 o0aaac.2.2.2.1, .int .u64 o0aaac.2.2.2.2.1, .int .i64 o0aaac.2.2.2.2.2.1, .int .i64 o0aaac.2.2.2.2.2.2] :: Mp (Elt.slice E8) m0aaacb q0aaacb :: Bf (Elt.pair E64 (Elt.slice E8)) 158 A0aaacc c0aaacc q0aaacc :: Mp E64 m0aah q0aah :: Mp E64 m0aak q0aak :: Bf (Elt.pair (Elt.pair E64 (Elt.pair (Elt.slice E8) (Elt.slice E8))) EBool) 102 A0b c0b q0b :: hs) rfl ?_
 obtain ⟨r1, hg1, hr⟩ := inv_bind hr
 refine T.call .list (wants0 rfl) rfl (run_callF (vs := [_]) rfl Try.func10 rfl (by decide) rfl) (fun w hS => view_Version.c hS (o0a := (o0a.1, o0a.2.1, o0a.2.2.1, o0a.2.2.2.1, o0a.2.2.2.2.1, o0a.2.2.2.2.2.1, o0a.2.2.2.2.2.2.1, o0a.2.2.2.2.2.2.2.1, o0a.2.2.2.2.2.2.2.2.1, o0a.2.2.2.2.2.2.2.2.2.1, o0a.2.2.2.2.2.2.2.2.2.2.1, o0a.2.2.2.2.2.2.2.2.2.2.2.1, o0a.2.2.2.2.2.2.2.2.2.2.2.2.1, o0a.2.2.2.2.2.2.2.2.2.2.2.2.2.1, o0a.2.2.2.2.2.2.2.2.2.2.2.2.2.2.1, o0a.2.2.2.2.2.2.2.2.2.2.2.2.2.2.2.1, o0a.2.2.2.2.2.2.2.2.2.2.2.2.2.2.2.2)) (o0aa := (o0aa.1, o0aa.2.1, o0aa.2.2.1, o0aa.2.2.2)) (o0aaa := (o0aaa.1, o0aaa.2.1, o0aaa.2.2.1, o0aaa.2.2.2)) (q0aaab := q0aaab) (o0aaac := (o0aaac.1, o0aaac.2.1, o0aaac.2.2.1, o0aaac.2.2.2.1, o0aaac.2.2.2.2.1, o0aaac.2.2.2.2.2.1, o0aaac.2.2.2.2.2.2)) (q0aaacb := q0aaacb) (q0aaacc := q0aaacc) (q0aah := q0aah) (q0aak := q0aak) (q0b := q0b)  hg1) (fun x1 => ?_)
 refine T.move .list rfl (wants0 rfl) rfl rfl ?_
 refine T.extract .list rfl (wants0 rfl) rfl rfl rfl ?_
 refine T.extract .list rfl (wants0 rfl) rfl rfl rfl ?_
 refine T.assign .list rfl (wants0 rfl) rfl rfl ?_
 refine T.assign .list rfl (wants0 rfl) rfl rfl ?_
 refine T.nil ?_
 refine T.then_normal ?_
 refine T.seq ?_
 refine T.seqJ (fun (s1 : Bool) (x2 : Unit) => [(0, .pointer (some ⟨p0, 0, none⟩)), (1, .int .i64 a1), (7, .int .i64 r1.2), (22, .bool s1)]) (fun s1 x2 => Cl p0 99 [.pointer (some ⟨p0a, 0, none⟩), .slice A0b q0b.length c0b] :: Cl p0a 89 [.pointer (some ⟨p0aa, 0, none⟩), .int .i64 o0a.1, .int .i64 o0a.2.1, .int .i64 o0a.2.2.1, .int .i64 o0a.2.2.2.1, .int .i64 o0a.2.2.2.2.1, .int .i64 o0a.2.2.2.2.2.1, .int .i64 o0a.2.2.2.2.2.2.1, .int .i64 o0a.2.2.2.2.2.2.2.1, .int .i64 o0a.2.2.2.2.2.2.2.2.1, .int .i64 o0a.2.2.2.2.2.2.2.2.2.1, .int .i64 o0a.2.2.2.2.2.2.2.2.2.2.1, .int .i64 o0a.2.2.2.2.2.2.2.2.2.2.2.1, .int .i64 o0a.2.2.2.2.2.2.2.2.2.2.2.2.1, .int .i64 o0a.2.2.2.2.2.2.2.2.2.2.2.2.2.1, .int .i64 o0a.2.2.2.2.2.2.2.2.2.2.2.2.2.2.1, .int .i64 o0a.2.2.2.2.2.2.2.2.2.2.2.2.2.2.2.1, .int .i64 o0a.2.2.2.2.2.2.2.2.2.2.2.2.2.2.2.2] :: Cl p0aa 115 [.pointer (some ⟨p0aaa, 0, none⟩), .nilIface, .int .i64 o0aa.1, .int .i64 o0aa.2.1, .nilIface, .int .i64 o0aa.2.2.1, .int .i64 o0aa.2.2.2, .map (some m0aah), .slice none 0 0, .slice none 0 0, .map (some m0aak)] :: Cl p0aaa 134 [.int .i64 o0aaa.1, .map (some m0aaab), .pointer (some ⟨p0aaac, 0, none⟩), .int .i64 o0aaa.2.1, .int .u64 o0aaa.2.2.1, .int .i64 o0aaa.2.2.2] :: Mp E64 m0aaab q0aaab :: Cl p0aaac 83 [.int .i64 o0aaac.1, .map (some m0aaacb), .slice A0aaacc q0aaacc.length c0aaacc, .bool o0aaac.2.1, .int .i64 o0aaac.2.2.1, .int .i64 o0aaac.2.2.2.1, .int .u64 o0aaac.2.2.2.2.1, .int .i64 o0aaac.2.2.2.2.2.1, .int .i64 o0aaac.2.2.2.2.2.2] :: Mp (Elt.slice E8) m0aaacb q0aaacb :: Bf (Elt.pair E64 (Elt.slice E8)) 158 A0aaacc c0aaacc q0aaacc :: Mp E64 m0aah q0aah :: Mp E64 m0aak q0aak :: Bf (Elt.pair (Elt.pair E64 (Elt.pair (Elt.slice E8) (Elt.slice E8))) EBool) 102 A0b c0b q0b :: hs) (fun s1 => view_Raise.k1 r1 q0b a1 o0a o0aa o0aaa q0aaab o0aaac q0aaacb q0aaacc q0aah q0aak s1 = some r) (fun s1 x2 hk1 => ?_) (fun J1 => ?_)
 ·unfold view_Raise.k1 at hk1
  refine T.cond rfl (fun hb1 => ?_) (fun hb1 => ?_)
  ·replace hk1 := inv_posB hb1 hk1
   refine T.seq ?_
   refine T.region ?_
   refine T.move .list rfl (wants0 rfl) rfl rfl ?_
   refine T.assign .list rfl (wants0 rfl) rfl rfl ?_
   refine T.assign .list rfl (wants0 rfl) rfl rfl ?_
   refine T.nil ?_
   refine T.then_normal ?_
   refine T.ret ?_
   refine T.then_ret ?_
   obtain rfl := inv_some hk1
   refine T.pick [0, 1, 2, 3, 4, 5, 6, 7, 8, 9, 10] 11 rfl rfl (Nat.le_add_left _ _) rfl ?_
   refine T.ret2 rfl rfl rfl (fun w hS => ⟨(A0b, c0b), rfl, hS⟩)
  ·replace hk1 := inv_negB hb1 hk1
   refine T.skip ?_
   refine T.then_normal ?_
   refine T.seq ?_
   refine T.region ?_
   refine T.move .list rfl (wants0 rfl) rfl rfl ?_
   refine T.lit (E := E8) .list (vals := [(0, .int .u8 0)]) (cells := #[.int .u8 0]) rfl (wants0 rfl) rfl rfl rfl rfl rfl (by kernel_rfl) ([(0 : UInt8)] : List UInt8) rfl (fun _ _ _ _ _ => (Encs.c1 (enc := b8) (h1 := fun _ => rfl) rfl rfl)) (fun b1 => ?_)
   refine T.move .list rfl (wants0 rfl) rfl rfl ?_
   obtain ⟨r2, hg2, hk1⟩ := inv_bind hk1
   refine T.call .list (wants0 rfl) rfl (run_callF (vs := [_]) rfl Try.func23 rfl (by decide) rfl) (fun w hS => wire_Uint.c hS  hg2) (fun x3 => ?_)
   refine T.freeze 1 rfl rfl rfl ?_
   refine T.freeze 0 rfl rfl rfl ?_
   refine T.pick [2, 3, 4, 5, 6, 7, 8, 9, 10, 11, 12, 0, 1] 13 rfl rfl (Nat.le_add_left _ _) (hs' := Cl p0 99 [.pointer (some ⟨p0a, 0, none⟩), .slice A0b q0b.length c0b] :: Cl p0a 89 [.pointer (some ⟨p0aa, 0, none⟩), .int .i64 o0a.1, .int .i64 o0a.2.1, .int .i64 o0a.2.2.1, .int .i64 o0a.2.2.2.1, .int .i64 o0a.2.2.2.2.1, .int .i64 o0a.2.2.2.2.2.1, .int .i64 o0a.2.2.2.2.2.2.1, .int .i64 o0a.2.2.2.2.2.2.2.1, .int .i64 o0a.2.2.2.2.2.2.2.2.1, .int .i64 o0a.2.2.2.2.2.2.2.2.2.1, .int .i64 o0a.2.2.2.2.2.2.2.2.2.2.1, .int .i64 o0a.2.2.2.2.2.2.2.2.2.2.2.1, .int .i64 o0a.2.2.2.2.2.2.2.2.2.2.2.2.1, .int .i64 o0a.2.2.2.2.2.2.2.2.2.2.2.2.2.1, .int .i64 o0a.2.2.2.2.2.2.2.2.2.2.2.2.2.2.1, .int .i64 o0a.2.2.2.2.2.2.2.2.2.2.2.2.2.2.2.1, .int .i64 o0a.2.2.2.2.2.2.2.2.2.2.2.2.2.2.2.2] :: Cl p0aa 115 [.pointer (some ⟨p0aaa, 0, none⟩), .nilIface, .int .i64 o0aa.1, .int .i64 o0aa.2.1, .nilIface, .int .i64 o0aa.2.2.1, .int .i64 o0aa.2.2.2, .map (some m0aah), .slice none 0 0, .slice none 0 0, .map (some m0aak)] :: Cl p0aaa 134 [.int .i64 o0aaa.1, .map (some m0aaab), .pointer (some ⟨p0aaac, 0, none⟩), .int .i64 o0aaa.2.1, .int .u64 o0aaa.2.2.1, .int .i64 o0aaa.2.2.2] :: Mp E64 m0aaab q0aaab :: Cl p0aaac 83 [.int .i64 o0aaac.1, .map (some m0aaacb), .slice A0aaacc q0aaacc.length c0aaacc, .bool o0aaac.2.1, .int .i64 o0aaac.2.2.1, .int .i64 o0aaac.2.2.2.1, .int .u64 o0aaac.2.2.2.2.1, .int .i64 o0aaac.2.2.2.2.2.1, .int .i64 o0aaac.2.2.2.2.2.2] :: Mp (Elt.slice E8) m0aaacb q0aaacb :: Bf (Elt.pair E64 (Elt.slice E8)) 158 A0aaacc c0aaacc q0aaacc :: Mp E64 m0aah q0aah :: Mp E64 m0aak q0aak :: Bf (Elt.pair (Elt.pair E64 (Elt.pair (Elt.slice E8) (Elt.slice E8))) EBool) 102 A0b c0b q0b :: Ro E8 x3.1 x3.2 r2 :: Ro E8 (some ⟨b1, 0, none⟩) 1 (([(0 : UInt8)] : List UInt8)) :: hs) rfl ?_
   obtain ⟨r3, hg3, hk1⟩ := inv_bind hk1
   refine T.call .list (wants0 rfl) rfl (run_callF (vs := [_, _, _, _]) rfl Try.func22 rfl (by decide) rfl) (fun w hS => draft_Draft_Put.c hS (i2 := 12) (i3 := 11) (o0a := (o0a.1, o0a.2.1, o0a.2.2.1, o0a.2.2.2.1, o0a.2.2.2.2.1, o0a.2.2.2.2.2.1, o0a.2.2.2.2.2.2.1, o0a.2.2.2.2.2.2.2.1, o0a.2.2.2.2.2.2.2.2.1, o0a.2.2.2.2.2.2.2.2.2.1, o0a.2.2.2.2.2.2.2.2.2.2.1, o0a.2.2.2.2.2.2.2.2.2.2.2.1, o0a.2.2.2.2.2.2.2.2.2.2.2.2.1, o0a.2.2.2.2.2.2.2.2.2.2.2.2.2.1, o0a.2.2.2.2.2.2.2.2.2.2.2.2.2.2.1, o0a.2.2.2.2.2.2.2.2.2.2.2.2.2.2.2.1, o0a.2.2.2.2.2.2.2.2.2.2.2.2.2.2.2.2)) (o0aa := (o0aa.1, o0aa.2.1, o0aa.2.2.1, o0aa.2.2.2)) (o0aaa := (o0aaa.1, o0aaa.2.1, o0aaa.2.2.1, o0aaa.2.2.2)) (q0aaab := q0aaab) (o0aaac := (o0aaac.1, o0aaac.2.1, o0aaac.2.2.1, o0aaac.2.2.2.1, o0aaac.2.2.2.2.1, o0aaac.2.2.2.2.2.1, o0aaac.2.2.2.2.2.2)) (q0aaacb := q0aaacb) (q0aaacc := q0aaacc) (q0aah := q0aah) (q0aak := q0aak) (q0b := q0b) rfl rfl hg3) (fun x4 => ?_)
   refine T.assign .list rfl (wants0 rfl) rfl rfl ?_
   refine T.nil ?_
   refine T.then_normal ?_
   refine T.seq ?_
   refine T.region ?_
   refine T.move .list rfl (wants0 rfl) rfl rfl ?_
   refine T.bin .list rfl (wants0 rfl) rfl rfl rfl rfl ?_
   refine T.move .list rfl (wants0 rfl) rfl rfl ?_
   refine T.assign .list rfl (wants0 rfl) rfl rfl ?_
   refine T.assign .list rfl (wants0 rfl) rfl rfl ?_
   refine T.nil ?_
   refine T.then_normal ?_
   refine T.ret ?_
   obtain rfl := inv_some hk1
   refine T.pick [0, 1, 2, 3, 4, 5, 6, 7, 8, 9, 10] 13 rfl rfl (Nat.le_add_left _ _) rfl ?_
   refine T.ret2 rfl rfl rfl (fun w hS => ⟨(x4.1, x4.2), rfl, hS⟩)
 ·refine T.region ?_
  refine T.move .list rfl (wants0 rfl) rfl rfl ?_
  refine T.bin .list rfl (wants0 rfl) rfl rfl rfl rfl ?_
  refine T.move .list rfl (wants0 rfl) rfl rfl ?_
  refine T.bool (b := (decide (r1.2 = 0))) (fun hb2 => ?_) (fun hb2 => ?_)
  ·replace hr := inv_posB hb2 hr
   refine T.move .list rfl (wants1 rfl rfl rfl (not_t hb2)) rfl rfl ?_
   refine T.bin .list rfl (wants1 rfl rfl rfl (not_t hb2)) rfl rfl rfl rfl ?_
   refine T.pickF .list rfl (wants0 rfl) rfl rfl (not_t hb2) rfl ?_
   refine T.move .list rfl (wants0 rfl) rfl rfl ?_
   refine T.bool (b := (decide (r1.1 = 1))) (fun hb3 => ?_) (fun hb3 => ?_)
   ·replace hr := inv_posB hb3 hr
    refine T.move .list rfl (wants1 rfl rfl rfl (not_t hb3)) rfl rfl ?_
    refine T.bin .list rfl (wants1 rfl rfl rfl (not_t hb3)) rfl rfl rfl rfl ?_
    refine T.pickF .list rfl (wants0 rfl) rfl rfl (not_t hb3) rfl ?_
    refine T.nil ?_
    refine T.then_normal ?_
    exact T.le (EnvLe.cons rfl (EnvLe.cons rfl (EnvLe.cons rfl (EnvLe.cons rfl EnvLe.nil)))) (T.pick [0, 1, 2, 3, 4, 5, 6, 7, 8, 9, 10] 11 rfl rfl (Nat.le_add_left _ _) rfl (J1 (!(decide (a1 = 2))) () hr))
   ·replace hr := inv_negB hb3 hr
    refine T.leave .list (wantsNot rfl rfl rfl (not_f hb3)) rfl ?_
    refine T.leave .list (wantsNot rfl rfl rfl (not_f hb3)) rfl ?_
    refine T.pickT .list rfl (wants0 rfl) rfl rfl (not_f hb3) rfl ?_
    refine T.nil ?_
    refine T.then_normal ?_
    exact T.le (EnvLe.cons rfl (EnvLe.cons rfl (EnvLe.cons rfl (EnvLe.cons rfl EnvLe.nil)))) (T.pick [0, 1, 2, 3, 4, 5, 6, 7, 8, 9, 10] 11 rfl rfl (Nat.le_add_left _ _) rfl (J1 true () hr))
  ·replace hr := inv_negB hb2 hr
   refine T.leave .list (wantsNot rfl rfl rfl (not_f hb2)) rfl ?_
   refine T.leave .list (wantsNot rfl rfl rfl (not_f hb2)) rfl ?_
   refine T.pickT .list rfl (wants0 rfl) rfl rfl (not_f hb2) rfl ?_
   refine T.move .list rfl (wants0 rfl) rfl rfl ?_
   refine T.leave .list (wantsNot rfl rfl rfl rfl) rfl ?_
   refine T.leave .list (wantsNot rfl rfl rfl rfl) rfl ?_
   refine T.pickT .list rfl (wants0 rfl) rfl rfl rfl rfl ?_
   refine T.nil ?_
   refine T.then_normal ?_
   exact T.le (EnvLe.cons rfl (EnvLe.cons rfl (EnvLe.cons rfl (EnvLe.cons rfl EnvLe.nil)))) (T.pick [0, 1, 2, 3, 4, 5, 6, 7, 8, 9, 10] 11 rfl rfl (Nat.le_add_left _ _) rfl (J1 true () hr))

noncomputable def view_Version_nil0.impl  : Option (Int × Int) :=
  some (0, 1)
set_option maxRecDepth 100000 in
set_option maxHeartbeats 4000000 in
theorem view_Version_nil0.c {B : World} {hs : List MP} {w : World} (hS : St B (hs) w) {r : Int × Int} (hr : view_Version_nil0.impl  = some r) :
    Calls Try.prog 10 #[.pointer none] w fun e w' => ∃ x : Unit, e = .returned (.tuple #[.int .i64 r.1, .int .i64 r.2]) ∧ St B (hs) w' := by
 unfold view_Version_nil0.impl at hr
 refine calls_T Try.func10 rfl rfl rfl hS ?_
 refine T.seq ?_
 refine T.region ?_
 refine T.assign .list rfl (wants0 rfl) rfl rfl ?_
 refine T.assign .list rfl (wants0 rfl) rfl rfl ?_
 refine T.nil ?_
 refine T.then_normal ?_
 refine T.seq ?_
 refine T.seq ?_
 refine T.region ?_
 refine T.move .list rfl (wants0 rfl) rfl rfl ?_
 refine T.ptrEq (pt := 99) .list rfl (wants0 rfl) rfl rfl rfl (by kernel_rfl) (.inr rfl) rfl ?_
 refine T.nil ?_
 refine T.then_normal ?_
 refine T.condT rfl rfl ?_
 refine T.seq ?_
 refine T.region ?_
 refine T.assign .list rfl (wants0 rfl) rfl rfl ?_
 refine T.assign .list rfl (wants0 rfl) rfl rfl ?_
 refine T.nil ?_
 refine T.then_normal ?_
 refine T.ret ?_
 refine T.then_ret ?_
 obtain rfl := inv_some hr
 refine T.pick [] 0 rfl rfl (Nat.le_add_left _ _) rfl ?_
 refine T.ret2 rfl rfl rfl (fun w hS => ⟨(), rfl, hS⟩)

noncomputable def law20_told.impl  : Option Bool :=
  (law13_New.impl ).bind fun r1 => (match r1 with | (none, r1p1) => (some false) | (some r1p0, r1p1) => ((view_Get.impl ((r1p0.2.1.1, r1p0.2.1.2.1, r1p0.2.1.2.2.1, r1p0.2.1.2.2.2.1, r1p0.2.1.2.2.2.2.1, r1p0.2.1.2.2.2.2.2.1, r1p0.2.1.2.2.2.2.2.2.1, r1p0.2.1.2.2.2.2.2.2.2.1, r1p0.2.1.2.2.2.2.2.2.2.2.1, r1p0.2.1.2.2.2.2.2.2.2.2.2.1, r1p0.2.1.2.2.2.2.2.2.2.2.2.2.1, r1p0.2.1.2.2.2.2.2.2.2.2.2.2.2.1, r1p0.2.1.2.2.2.2.2.2.2.2.2.2.2.2.1, r1p0.2.1.2.2.2.2.2.2.2.2.2.2.2.2.2.1, r1p0.2.1.2.2.2.2.2.2.2.2.2.2.2.2.2.2.1, r1p0.2.1.2.2.2.2.2.2.2.2.2.2.2.2.2.2.2.1, r1p0.2.1.2.2.2.2.2.2.2.2.2.2.2.2.2.2.2.2)) ((r1p0.2.2.1.1, r1p0.2.2.1.2.1, r1p0.2.2.1.2.2.1, r1p0.2.2.1.2.2.2)) ((r1p0.2.2.2.1.1, r1p0.2.2.2.1.2.1, r1p0.2.2.2.1.2.2.1, r1p0.2.2.2.1.2.2.2)) r1p0.2.2.2.2.1 ((r1p0.2.2.2.2.2.1.1, r1p0.2.2.2.2.2.1.2.1, r1p0.2.2.2.2.2.1.2.2.1, r1p0.2.2.2.2.2.1.2.2.2.1, r1p0.2.2.2.2.2.1.2.2.2.2.1, r1p0.2.2.2.2.2.1.2.2.2.2.2.1, r1p0.2.2.2.2.2.1.2.2.2.2.2.2)) r1p0.2.2.2.2.2.2.1 r1p0.2.2.2.2.2.2.2.1 r1p0.2.2.2.2.2.2.2.2.1 r1p0.2.2.2.2.2.2.2.2.2.1 r1p0.2.2.2.2.2.2.2.2.2.2 2).bind fun r2 => (view_Note.impl ((r1p0.2.1.1, r1p0.2.1.2.1, r1p0.2.1.2.2.1, r1p0.2.1.2.2.2.1, r1p0.2.1.2.2.2.2.1, r1p0.2.1.2.2.2.2.2.1, r1p0.2.1.2.2.2.2.2.2.1, r1p0.2.1.2.2.2.2.2.2.2.1, r1p0.2.1.2.2.2.2.2.2.2.2.1, r1p0.2.1.2.2.2.2.2.2.2.2.2.1, r1p0.2.1.2.2.2.2.2.2.2.2.2.2.1, r1p0.2.1.2.2.2.2.2.2.2.2.2.2.2.1, r1p0.2.1.2.2.2.2.2.2.2.2.2.2.2.2.1, r1p0.2.1.2.2.2.2.2.2.2.2.2.2.2.2.2.1, r1p0.2.1.2.2.2.2.2.2.2.2.2.2.2.2.2.2.1, r1p0.2.1.2.2.2.2.2.2.2.2.2.2.2.2.2.2.2.1, r1p0.2.1.2.2.2.2.2.2.2.2.2.2.2.2.2.2.2.2)) ((r1p0.2.2.1.1, r1p0.2.2.1.2.1, r1p0.2.2.1.2.2.1, r1p0.2.2.1.2.2.2)) ((r1p0.2.2.2.1.1, r1p0.2.2.2.1.2.1, r1p0.2.2.2.1.2.2.1, r1p0.2.2.2.1.2.2.2)) r1p0.2.2.2.2.1 ((r1p0.2.2.2.2.2.1.1, r1p0.2.2.2.2.2.1.2.1, r1p0.2.2.2.2.2.1.2.2.1, r1p0.2.2.2.2.2.1.2.2.2.1, r1p0.2.2.2.2.2.1.2.2.2.2.1, r1p0.2.2.2.2.2.1.2.2.2.2.2.1, r1p0.2.2.2.2.2.1.2.2.2.2.2.2)) r1p0.2.2.2.2.2.2.1 r1p0.2.2.2.2.2.2.2.1 r1p0.2.2.2.2.2.2.2.2.1 r1p0.2.2.2.2.2.2.2.2.2.1 r1p0.2.2.2.2.2.2.2.2.2.2 2 5).bind fun r3 => (view_Note.impl ((r1p0.2.1.1, r1p0.2.1.2.1, r1p0.2.1.2.2.1, r1p0.2.1.2.2.2.1, r1p0.2.1.2.2.2.2.1, r1p0.2.1.2.2.2.2.2.1, r1p0.2.1.2.2.2.2.2.2.1, r1p0.2.1.2.2.2.2.2.2.2.1, r1p0.2.1.2.2.2.2.2.2.2.2.1, r1p0.2.1.2.2.2.2.2.2.2.2.2.1, r1p0.2.1.2.2.2.2.2.2.2.2.2.2.1, r1p0.2.1.2.2.2.2.2.2.2.2.2.2.2.1, r1p0.2.1.2.2.2.2.2.2.2.2.2.2.2.2.1, r1p0.2.1.2.2.2.2.2.2.2.2.2.2.2.2.2.1, r1p0.2.1.2.2.2.2.2.2.2.2.2.2.2.2.2.2.1, r1p0.2.1.2.2.2.2.2.2.2.2.2.2.2.2.2.2.2.1, r1p0.2.1.2.2.2.2.2.2.2.2.2.2.2.2.2.2.2.2)) ((r1p0.2.2.1.1, r1p0.2.2.1.2.1, r1p0.2.2.1.2.2.1, r1p0.2.2.1.2.2.2)) ((r1p0.2.2.2.1.1, r1p0.2.2.2.1.2.1, r1p0.2.2.2.1.2.2.1, r1p0.2.2.2.1.2.2.2)) r1p0.2.2.2.2.1 ((r1p0.2.2.2.2.2.1.1, r1p0.2.2.2.2.2.1.2.1, r1p0.2.2.2.2.2.1.2.2.1, r1p0.2.2.2.2.2.1.2.2.2.1, r1p0.2.2.2.2.2.1.2.2.2.2.1, r1p0.2.2.2.2.2.1.2.2.2.2.2.1, r1p0.2.2.2.2.2.1.2.2.2.2.2.2)) r1p0.2.2.2.2.2.2.1 r1p0.2.2.2.2.2.2.2.1 r1p0.2.2.2.2.2.2.2.2.1 r1p0.2.2.2.2.2.2.2.2.2.1 r3.2 2 3).bind fun r4 => (view_Get.impl ((r1p0.2.1.1, r1p0.2.1.2.1, r1p0.2.1.2.2.1, r1p0.2.1.2.2.2.1, r1p0.2.1.2.2.2.2.1, r1p0.2.1.2.2.2.2.2.1, r1p0.2.1.2.2.2.2.2.2.1, r1p0.2.1.2.2.2.2.2.2.2.1, r1p0.2.1.2.2.2.2.2.2.2.2.1, r1p0.2.1.2.2.2.2.2.2.2.2.2.1, r1p0.2.1.2.2.2.2.2.2.2.2.2.2.1, r1p0.2.1.2.2.2.2.2.2.2.2.2.2.2.1, r1p0.2.1.2.2.2.2.2.2.2.2.2.2.2.2.1, r1p0.2.1.2.2.2.2.2.2.2.2.2.2.2.2.2.1, r1p0.2.1.2.2.2.2.2.2.2.2.2.2.2.2.2.2.1, r1p0.2.1.2.2.2.2.2.2.2.2.2.2.2.2.2.2.2.1, r1p0.2.1.2.2.2.2.2.2.2.2.2.2.2.2.2.2.2.2)) ((r1p0.2.2.1.1, r1p0.2.2.1.2.1, r1p0.2.2.1.2.2.1, r1p0.2.2.1.2.2.2)) ((r1p0.2.2.2.1.1, r1p0.2.2.2.1.2.1, r1p0.2.2.2.1.2.2.1, r1p0.2.2.2.1.2.2.2)) r1p0.2.2.2.2.1 ((r1p0.2.2.2.2.2.1.1, r1p0.2.2.2.2.2.1.2.1, r1p0.2.2.2.2.2.1.2.2.1, r1p0.2.2.2.2.2.1.2.2.2.1, r1p0.2.2.2.2.2.1.2.2.2.2.1, r1p0.2.2.2.2.2.1.2.2.2.2.2.1, r1p0.2.2.2.2.2.1.2.2.2.2.2.2)) r1p0.2.2.2.2.2.2.1 r1p0.2.2.2.2.2.2.2.1 r1p0.2.2.2.2.2.2.2.2.1 r1p0.2.2.2.2.2.2.2.2.2.1 r4.2 2).bind fun r5 => (view_Note.impl ((r1p0.2.1.1, r1p0.2.1.2.1, r1p0.2.1.2.2.1, r1p0.2.1.2.2.2.1, r1p0.2.1.2.2.2.2.1, r1p0.2.1.2.2.2.2.2.1, r1p0.2.1.2.2.2.2.2.2.1, r1p0.2.1.2.2.2.2.2.2.2.1, r1p0.2.1.2.2.2.2.2.2.2.2.1, r1p0.2.1.2.2.2.2.2.2.2.2.2.1, r1p0.2.1.2.2.2.2.2.2.2.2.2.2.1, r1p0.2.1.2.2.2.2.2.2.2.2.2.2.2.1, r1p0.2.1.2.2.2.2.2.2.2.2.2.2.2.2.1, r1p0.2.1.2.2.2.2.2.2.2.2.2.2.2.2.2.1, r1p0.2.1.2.2.2.2.2.2.2.2.2.2.2.2.2.2.1, r1p0.2.1.2.2.2.2.2.2.2.2.2.2.2.2.2.2.2.1, r1p0.2.1.2.2.2.2.2.2.2.2.2.2.2.2.2.2.2.2)) ((r1p0.2.2.1.1, r1p0.2.2.1.2.1, r1p0.2.2.1.2.2.1, r1p0.2.2.1.2.2.2)) ((r1p0.2.2.2.1.1, r1p0.2.2.2.1.2.1, r1p0.2.2.2.1.2.2.1, r1p0.2.2.2.1.2.2.2)) r1p0.2.2.2.2.1 ((r1p0.2.2.2.2.2.1.1, r1p0.2.2.2.2.2.1.2.1, r1p0.2.2.2.2.2.1.2.2.1, r1p0.2.2.2.2.2.1.2.2.2.1, r1p0.2.2.2.2.2.1.2.2.2.2.1, r1p0.2.2.2.2.2.1.2.2.2.2.2.1, r1p0.2.2.2.2.2.1.2.2.2.2.2.2)) r1p0.2.2.2.2.2.2.1 r1p0.2.2.2.2.2.2.2.1 r1p0.2.2.2.2.2.2.2.2.1 r1p0.2.2.2.2.2.2.2.2.2.1 r4.2 0 4).bind fun r6 => (view_Least.impl ((r1p0.2.1.1, r1p0.2.1.2.1, r1p0.2.1.2.2.1, r1p0.2.1.2.2.2.1, r1p0.2.1.2.2.2.2.1, r1p0.2.1.2.2.2.2.2.1, r1p0.2.1.2.2.2.2.2.2.1, r1p0.2.1.2.2.2.2.2.2.2.1, r1p0.2.1.2.2.2.2.2.2.2.2.1, r1p0.2.1.2.2.2.2.2.2.2.2.2.1, r1p0.2.1.2.2.2.2.2.2.2.2.2.2.1, r1p0.2.1.2.2.2.2.2.2.2.2.2.2.2.1, r1p0.2.1.2.2.2.2.2.2.2.2.2.2.2.2.1, r1p0.2.1.2.2.2.2.2.2.2.2.2.2.2.2.2.1, r1p0.2.1.2.2.2.2.2.2.2.2.2.2.2.2.2.2.1, r1p0.2.1.2.2.2.2.2.2.2.2.2.2.2.2.2.2.2.1, r1p0.2.1.2.2.2.2.2.2.2.2.2.2.2.2.2.2.2.2)) ((r1p0.2.2.1.1, r1p0.2.2.1.2.1, r1p0.2.2.1.2.2.1, r1p0.2.2.1.2.2.2)) ((r1p0.2.2.2.1.1, r1p0.2.2.2.1.2.1, r1p0.2.2.2.1.2.2.1, r1p0.2.2.2.1.2.2.2)) r1p0.2.2.2.2.1 ((r1p0.2.2.2.2.2.1.1, r1p0.2.2.2.2.2.1.2.1, r1p0.2.2.2.2.2.1.2.2.1, r1p0.2.2.2.2.2.1.2.2.2.1, r1p0.2.2.2.2.2.1.2.2.2.2.1, r1p0.2.2.2.2.2.1.2.2.2.2.2.1, r1p0.2.2.2.2.2.1.2.2.2.2.2.2)) r1p0.2.2.2.2.2.2.1 r1p0.2.2.2.2.2.2.2.1 r1p0.2.2.2.2.2.2.2.2.1 r1p0.2.2.2.2.2.2.2.2.2.1 r6.2).bind fun r7 => (view_Version.impl ((r1p0.2.1.1, r1p0.2.1.2.1, r1p0.2.1.2.2.1, r1p0.2.1.2.2.2.1, r1p0.2.1.2.2.2.2.1, r1p0.2.1.2.2.2.2.2.1, r1p0.2.1.2.2.2.2.2.2.1, r1p0.2.1.2.2.2.2.2.2.2.1, r1p0.2.1.2.2.2.2.2.2.2.2.1, r1p0.2.1.2.2.2.2.2.2.2.2.2.1, r1p0.2.1.2.2.2.2.2.2.2.2.2.2.1, r1p0.2.1.2.2.2.2.2.2.2.2.2.2.2.1, r1p0.2.1.2.2.2.2.2.2.2.2.2.2.2.2.1, r1p0.2.1.2.2.2.2.2.2.2.2.2.2.2.2.2.1, r1p0.2.1.2.2.2.2.2.2.2.2.2.2.2.2.2.2.1, r1p0.2.1.2.2.2.2.2.2.2.2.2.2.2.2.2.2.2.1, r1p0.2.1.2.2.2.2.2.2.2.2.2.2.2.2.2.2.2.2)) ((r1p0.2.2.1.1, r1p0.2.2.1.2.1, r1p0.2.2.1.2.2.1, r1p0.2.2.1.2.2.2)) ((r1p0.2.2.2.1.1, r1p0.2.2.2.1.2.1, r1p0.2.2.2.1.2.2.1, r1p0.2.2.2.1.2.2.2)) r1p0.2.2.2.2.1 ((r1p0.2.2.2.2.2.1.1, r1p0.2.2.2.2.2.1.2.1, r1p0.2.2.2.2.2.1.2.2.1, r1p0.2.2.2.2.2.1.2.2.2.1, r1p0.2.2.2.2.2.1.2.2.2.2.1, r1p0.2.2.2.2.2.1.2.2.2.2.2.1, r1p0.2.2.2.2.2.1.2.2.2.2.2.2)) r1p0.2.2.2.2.2.2.1 r1p0.2.2.2.2.2.2.2.1 r1p0.2.2.2.2.2.2.2.2.1 r1p0.2.2.2.2.2.2.2.2.2.1 r6.2).bind fun r8 => (view_Raise.impl ((r1p0.2.1.1, r1p0.2.1.2.1, r1p0.2.1.2.2.1, r1p0.2.1.2.2.2.1, r1p0.2.1.2.2.2.2.1, r1p0.2.1.2.2.2.2.2.1, r1p0.2.1.2.2.2.2.2.2.1, r1p0.2.1.2.2.2.2.2.2.2.1, r1p0.2.1.2.2.2.2.2.2.2.2.1, r1p0.2.1.2.2.2.2.2.2.2.2.2.1, r1p0.2.1.2.2.2.2.2.2.2.2.2.2.1, r1p0.2.1.2.2.2.2.2.2.2.2.2.2.2.1, r1p0.2.1.2.2.2.2.2.2.2.2.2.2.2.2.1, r1p0.2.1.2.2.2.2.2.2.2.2.2.2.2.2.2.1, r1p0.2.1.2.2.2.2.2.2.2.2.2.2.2.2.2.2.1, r1p0.2.1.2.2.2.2.2.2.2.2.2.2.2.2.2.2.2.1, r1p0.2.1.2.2.2.2.2.2.2.2.2.2.2.2.2.2.2.2)) ((r1p0.2.2.1.1, r1p0.2.2.1.2.1, r1p0.2.2.1.2.2.1, r1p0.2.2.1.2.2.2)) ((r1p0.2.2.2.1.1, r1p0.2.2.2.1.2.1, r1p0.2.2.2.1.2.2.1, r1p0.2.2.2.1.2.2.2)) r1p0.2.2.2.2.1 ((r1p0.2.2.2.2.2.1.1, r1p0.2.2.2.2.2.1.2.1, r1p0.2.2.2.2.2.1.2.2.1, r1p0.2.2.2.2.2.1.2.2.2.1, r1p0.2.2.2.2.2.1.2.2.2.2.1, r1p0.2.2.2.2.2.1.2.2.2.2.2.1, r1p0.2.2.2.2.2.1.2.2.2.2.2.2)) r1p0.2.2.2.2.2.2.1 r1p0.2.2.2.2.2.2.2.1 r1p0.2.2.2.2.2.2.2.2.1 r1p0.2.2.2.2.2.2.2.2.2.1 r6.2 2).bind fun r9 => (view_Version.impl ((r1p0.2.1.1, r1p0.2.1.2.1, r1p0.2.1.2.2.1, r1p0.2.1.2.2.2.1, r1p0.2.1.2.2.2.2.1, r1p0.2.1.2.2.2.2.2.1, r1p0.2.1.2.2.2.2.2.2.1, r1p0.2.1.2.2.2.2.2.2.2.1, r1p0.2.1.2.2.2.2.2.2.2.2.1, r1p0.2.1.2.2.2.2.2.2.2.2.2.1, r1p0.2.1.2.2.2.2.2.2.2.2.2.2.1, r1p0.2.1.2.2.2.2.2.2.2.2.2.2.2.1, r1p0.2.1.2.2.2.2.2.2.2.2.2.2.2.2.1, r1p0.2.1.2.2.2.2.2.2.2.2.2.2.2.2.2.1, r1p0.2.1.2.2.2.2.2.2.2.2.2.2.2.2.2.2.1, r1p0.2.1.2.2.2.2.2.2.2.2.2.2.2.2.2.2.2.1, r1p0.2.1.2.2.2.2.2.2.2.2.2.2.2.2.2.2.2.2)) ((r1p0.2.2.1.1, r1p0.2.2.1.2.1, r1p0.2.2.1.2.2.1, r1p0.2.2.1.2.2.2)) ((r1p0.2.2.2.1.1, r1p0.2.2.2.1.2.1, r1p0.2.2.2.1.2.2.1, r1p0.2.2.2.1.2.2.2)) r1p0.2.2.2.2.1 ((r1p0.2.2.2.2.2.1.1, r1p0.2.2.2.2.2.1.2.1, r1p0.2.2.2.2.2.1.2.2.1, r1p0.2.2.2.2.2.1.2.2.2.1, r1p0.2.2.2.2.2.1.2.2.2.2.1, r1p0.2.2.2.2.2.1.2.2.2.2.2.1, r1p0.2.2.2.2.2.1.2.2.2.2.2.2)) r1p0.2.2.2.2.2.2.1 r1p0.2.2.2.2.2.2.2.1 r1p0.2.2.2.2.2.2.2.2.1 r1p0.2.2.2.2.2.2.2.2.2.1 r9.2.2).bind fun r10 => (view_Version_nil0.impl ).bind fun r11 => (if r2.2.1 = true then some false else (if ((decide (r2.2.2 = 0))) = true then (if ((decide (r5.1 = 5))) = true then (if r5.2.1 = true then (if ((decide (r5.2.2 = 0))) = true then (if ((decide (r7.1 = 4))) = true then (if r7.2.1 = true then (if ((decide (r7.2.2 = 0))) = true then (if ((decide (r8.1 = 1))) = true then (if ((decide (r8.2 = 0))) = true then (if r9.1 = true then (if ((decide (r9.2.1 = 0))) = true then (if ((decide (r10.1 = 2))) = true then (if ((decide (r10.2 = 0))) = true then some (decide (r11.2 = 1)) else some false) else some false) else some false) else some false) else some false) else some false) else some false) else some false) else some false) else some false) else some false) else some false) else some false))))
set_option maxRecDepth 100000 in
set_option maxHeartbeats 4000000 in
theorem law20_told.c {B : World} {hs : List MP} {w : World} (hS : St B (hs) w) {r : Bool} (hr : law20_told.impl  = some r) :
    Calls Try.prog 15 #[] w fun e w' => ∃ x : Unit, e = .returned (.bool r) ∧ St B (hs) w' := by
 unfold law20_told.impl at hr
 refine calls_T Try.func15 rfl rfl rfl hS ?_
 refine T.seq ?_
 refine T.region ?_
 refine T.assign .list rfl (wants0 rfl) rfl rfl ?_
 refine T.nil ?_
 refine T.then_normal ?_
 refine T.seq ?_
 refine T.region ?_
 obtain ⟨r1, hg1, hr⟩ := inv_bind hr
 rcases r1 with ⟨_ | r1p0, r1p1⟩
 ·dsimp only at hr
  refine T.call (v := fun (x1 : (Nat) × (Nat) × (Nat) × (Nat) × (Nat) × (Nat) × (Nat) × (Option Addr × Nat) × (Nat) × (Nat) × (Option Addr × Nat)) => .tuple #[.pointer none, .pointer none]) (hs' := fun x1 => hs) .list (wants0 rfl) rfl (run_callF (vs := []) rfl Try.func5 rfl (by decide) rfl) (fun w hS => law13_New.c hS  hg1) (fun x1 => ?_)
  refine T.move .list rfl (wants0 rfl) rfl rfl ?_
  refine T.extract .list rfl (wants0 rfl) rfl rfl rfl ?_
  refine T.extract .list rfl (wants0 rfl) rfl rfl rfl ?_
  refine T.assign .list rfl (wants0 rfl) rfl rfl ?_
  refine T.assign .list rfl (wants0 rfl) rfl rfl ?_
  refine T.nil ?_
  refine T.then_normal ?_
  refine T.seq ?_
  refine T.seq ?_
  refine T.region ?_
  refine T.move .list rfl (wants0 rfl) rfl rfl ?_
  refine T.ptrEq (pt := 99) .list rfl (wants0 rfl) rfl rfl rfl (by kernel_rfl) (.inr rfl) rfl ?_
  refine T.nil ?_
  refine T.then_normal ?_
  refine T.condT rfl rfl ?_
  refine T.seq ?_
  refine T.region ?_
  refine T.assign .list rfl (wants0 rfl) rfl rfl ?_
  refine T.nil ?_
  refine T.then_normal ?_
  refine T.ret ?_
  refine T.then_ret ?_
  obtain rfl := inv_some hr
  refine T.pick [] 0 rfl rfl (Nat.le_add_left _ _) rfl ?_
  refine T.ret1 rfl rfl (fun w hS => ⟨(), rfl, hS⟩)
 ·dsimp only at hr
  refine T.call (v := fun (x2 : (Nat) × (Nat) × (Nat) × (Nat) × (Nat) × (Nat) × (Nat) × (Option Addr × Nat) × (Nat) × (Nat) × (Option Addr × Nat)) => .tuple #[.pointer (some ⟨x2.1, 0, none⟩), .pointer (some ⟨x2.2.1, 0, none⟩)]) (hs' := fun x2 => Cl x2.1 99 [.pointer (some ⟨x2.2.1, 0, none⟩), .slice x2.2.2.2.2.2.2.2.2.2.2.1 r1p0.2.2.2.2.2.2.2.2.2.2.length x2.2.2.2.2.2.2.2.2.2.2.2] :: Cl x2.2.1 89 [.pointer (some ⟨x2.2.2.1, 0, none⟩), .int .i64 r1p0.2.1.1, .int .i64 r1p0.2.1.2.1, .int .i64 r1p0.2.1.2.2.1, .int .i64 r1p0.2.1.2.2.2.1, .int .i64 r1p0.2.1.2.2.2.2.1, .int .i64 r1p0.2.1.2.2.2.2.2.1, .int .i64 r1p0.2.1.2.2.2.2.2.2.1, .int .i64 r1p0.2.1.2.2.2.2.2.2.2.1, .int .i64 r1p0.2.1.2.2.2.2.2.2.2.2.1, .int .i64 r1p0.2.1.2.2.2.2.2.2.2.2.2.1, .int .i64 r1p0.2.1.2.2.2.2.2.2.2.2.2.2.1, .int .i64 r1p0.2.1.2.2.2.2.2.2.2.2.2.2.2.1, .int .i64 r1p0.2.1.2.2.2.2.2.2.2.2.2.2.2.2.1, .int .i64 r1p0.2.1.2.2.2.2.2.2.2.2.2.2.2.2.2.1, .int .i64 r1p0.2.1.2.2.2.2.2.2.2.2.2.2.2.2.2.2.1, .int .i64 r1p0.2.1.2.2.2.2.2.2.2.2.2.2.2.2.2.2.2.1, .int .i64 r1p0.2.1.2.2.2.2.2.2.2.2.2.2.2.2.2.2.2.2] :: Cl x2.2.2.1 115 [.pointer (some ⟨x2.2.2.2.1, 0, none⟩), .nilIface, .int .i64 r1p0.2.2.1.1, .int .i64 r1p0.2.2.1.2.1, .nilIface, .int .i64 r1p0.2.2.1.2.2.1, .int .i64 r1p0.2.2.1.2.2.2, .map (some x2.2.2.2.2.2.2.2.2.1), .slice none 0 0, .slice none 0 0, .map (some x2.2.2.2.2.2.2.2.2.2.1)] :: Cl x2.2.2.2.1 134 [.int .i64 r1p0.2.2.2.1.1, .map (some x2.2.2.2.2.1), .pointer (some ⟨x2.2.2.2.2.2.1, 0, none⟩), .int .i64 r1p0.2.2.2.1.2.1, .int .u64 r1p0.2.2.2.1.2.2.1, .int .i64 r1p0.2.2.2.1.2.2.2] :: Mp E64 x2.2.2.2.2.1 r1p0.2.2.2.2.1 :: Cl x2.2.2.2.2.2.1 83 [.int .i64 r1p0.2.2.2.2.2.1.1, .map (some x2.2.2.2.2.2.2.1), .slice x2.2.2.2.2.2.2.2.1.1 r1p0.2.2.2.2.2.2.2.1.length x2.2.2.2.2.2.2.2.1.2, .bool r1p0.2.2.2.2.2.1.2.1, .int .i64 r1p0.2.2.2.2.2.1.2.2.1, .int .i64 r1p0.2.2.2.2.2.1.2.2.2.1, .int .u64 r1p0.2.2.2.2.2.1.2.2.2.2.1, .int .i64 r1p0.2.2.2.2.2.1.2.2.2.2.2.1, .int .i64 r1p0.2.2.2.2.2.1.2.2.2.2.2.2] :: Mp (Elt.slice E8) x2.2.2.2.2.2.2.1 r1p0.2.2.2.2.2.2.1 :: Bf (Elt.pair E64 (Elt.slice E8)) 158 x2.2.2.2.2.2.2.2.1.1 x2.2.2.2.2.2.2.2.1.2 r1p0.2.2.2.2.2.2.2.1 :: Mp E64 x2.2.2.2.2.2.2.2.2.1 r1p0.2.2.2.2.2.2.2.2.1 :: Mp E64 x2.2.2.2.2.2.2.2.2.2.1 r1p0.2.2.2.2.2.2.2.2.2.1 :: Bf (Elt.pair (Elt.pair E64 (Elt.pair (Elt.slice E8) (Elt.slice E8))) EBool) 102 x2.2.2.2.2.2.2.2.2.2.2.1 x2.2.2.2.2.2.2.2.2.2.2.2 r1p0.2.2.2.2.2.2.2.2.2.2 :: hs) .list (wants0 rfl) rfl (run_callF (vs := []) rfl Try.func5 rfl (by decide) rfl) (fun w hS => law13_New.c hS  hg1) (fun x2 => ?_)
  refine T.move .list rfl (wants0 rfl) rfl rfl ?_
  refine T.extract .list rfl (wants0 rfl) rfl rfl rfl ?_
  refine T.extract .list rfl (wants0 rfl) rfl rfl rfl ?_
  refine T.assign .list rfl (wants0 rfl) rfl rfl ?_
  refine T.assign .list rfl (wants0 rfl) rfl rfl ?_
  refine T.nil ?_
  refine T.then_normal ?_
  refine T.seq ?_
  refine T.seq ?_
  refine T.region ?_
  refine T.move .list rfl (wants0 rfl) rfl rfl ?_
  refine T.ptrEq (pt := 99) .list rfl (wants0 rfl) rfl rfl rfl (by kernel_rfl) (.inr rfl) rfl ?_
  refine T.nil ?_
  refine T.then_normal ?_
  refine T.condF rfl rfl ?_
  refine T.skip ?_
  refine T.then_normal ?_
  refine T.seq ?_
  refine T.region ?_
  refine T.move .list rfl (wants0 rfl) rfl rfl ?_
  refine T.pick [0, 1, 2, 3, 4, 5, 6, 7, 8, 9, 10] 11 rfl rfl (Nat.le_add_left _ _) (hs' := Cl x2.1 99 [.pointer (some ⟨x2.2.1, 0, none⟩), .slice x2.2.2.2.2.2.2.2.2.2.2.1 r1p0.2.2.2.2.2.2.2.2.2.2.length x2.2.2.2.2.2.2.2.2.2.2.2] :: Cl x2.2.1 89 [.pointer (some ⟨x2.2.2.1, 0, none⟩), .int .i64 r1p0.2.1.1, .int .i64 r1p0.2.1.2.1, .int .i64 r1p0.2.1.2.2.1, .int .i64 r1p0.2.1.2.2.2.1, .int .i64 r1p0.2.1.2.2.2.2.1, .int .i64 r1p0.2.1.2.2.2.2.2.1, .int .i64 r1p0.2.1.2.2.2.2.2.2.1, .int .i64 r1p0.2.1.2.2.2.2.2.2.2.1, .int .i64 r1p0.2.1.2.2.2.2.2.2.2.2.1, .int .i64 r1p0.2.1.2.2.2.2.2.2.2.2.2.1, .int .i64 r1p0.2.1.2.2.2.2.2.2.2.2.2.2.1, .int .i64 r1p0.2.1.2.2.2.2.2.2.2.2.2.2.2.1, .int .i64 r1p0.2.1.2.2.2.2.2.2.2.2.2.2.2.2.1, .int .i64 r1p0.2.1.2.2.2.2.2.2.2.2.2.2.2.2.2.1, .int .i64 r1p0.2.1.2.2.2.2.2.2.2.2.2.2.2.2.2.2.1, .int .i64 r1p0.2.1.2.2.2.2.2.2.2.2.2.2.2.2.2.2.2.1, .int .i64 r1p0.2.1.2.2.2.2.2.2.2.2.2.2.2.2.2.2.2.2] :: Cl x2.2.2.1 115 [.pointer (some ⟨x2.2.2.2.1, 0, none⟩), .nilIface, .int .i64 r1p0.2.2.1.1, .int .i64 r1p0.2.2.1.2.1, .nilIface, .int .i64 r1p0.2.2.1.2.2.1, .int .i64 r1p0.2.2.1.2.2.2, .map (some x2.2.2.2.2.2.2.2.2.1), .slice none 0 0, .slice none 0 0, .map (some x2.2.2.2.2.2.2.2.2.2.1)] :: Cl x2.2.2.2.1 134 [.int .i64 r1p0.2.2.2.1.1, .map (some x2.2.2.2.2.1), .pointer (some ⟨x2.2.2.2.2.2.1, 0, none⟩), .int .i64 r1p0.2.2.2.1.2.1, .int .u64 r1p0.2.2.2.1.2.2.1, .int .i64 r1p0.2.2.2.1.2.2.2] :: Mp E64 x2.2.2.2.2.1 r1p0.2.2.2.2.1 :: Cl x2.2.2.2.2.2.1 83 [.int .i64 r1p0.2.2.2.2.2.1.1, .map (some x2.2.2.2.2.2.2.1), .slice x2.2.2.2.2.2.2.2.1.1 r1p0.2.2.2.2.2.2.2.1.length x2.2.2.2.2.2.2.2.1.2, .bool r1p0.2.2.2.2.2.1.2.1, .int .i64 r1p0.2.2.2.2.2.1.2.2.1, .int .i64 r1p0.2.2.2.2.2.1.2.2.2.1, .int .u64 r1p0.2.2.2.2.2.1.2.2.2.2.1, .int .i64 r1p0.2.2.2.2.2.1.2.2.2.2.2.1, .int .i64 r1p0.2.2.2.2.2.1.2.2.2.2.2.2] :: Mp (Elt.slice E8) x2.2.2.2.2.2.2.1 r1p0.2.2.2.2.2.2.1 :: Bf (Elt.pair E64 (Elt.slice E8)) 158 x2.2.2.2.2.2.2.2.1.1 x2.2.2.2.2.2.2.2.1.2 r1p0.2.2.2.2.2.2.2.1 :: Mp E64 x2.2.2.2.2.2.2.2.2.1 r1p0.2.2.2.2.2.2.2.2.1 :: Mp E64 x2.2.2.2.2.2.2.2.2.2.1 r1p0.2.2.2.2.2.2.2.2.2.1 :: Bf (Elt.pair (Elt.pair E64 (Elt.pair (Elt.slice E8) (Elt.slice E8))) EBool) 102 x2.2.2.2.2.2.2.2.2.2.2.1 x2.2.2.2.2.2.2.2.2.2.2.2 r1p0.2.2.2.2.2.2.2.2.2.2 :: hs) rfl ?_
  obtain ⟨r2, hg2, hr⟩ := inv_bind hr
  refine T.call .list (wants0 rfl) rfl (run_callF (vs := [_, _]) rfl Try.func9 rfl (by decide) rfl) (fun w hS => view_Get.c hS (o0a := (r1p0.2.1.1, r1p0.2.1.2.1, r1p0.2.1.2.2.1, r1p0.2.1.2.2.2.1, r1p0.2.1.2.2.2.2.1, r1p0.2.1.2.2.2.2.2.1, r1p0.2.1.2.2.2.2.2.2.1, r1p0.2.1.2.2.2.2.2.2.2.1, r1p0.2.1.2.2.2.2.2.2.2.2.1, r1p0.2.1.2.2.2.2.2.2.2.2.2.1, r1p0.2.1.2.2.2.2.2.2.2.2.2.2.1, r1p0.2.1.2.2.2.2.2.2.2.2.2.2.2.1, r1p0.2.1.2.2.2.2.2.2.2.2.2.2.2.2.1, r1p0.2.1.2.2.2.2.2.2.2.2.2.2.2.2.2.1, r1p0.2.1.2.2.2.2.2.2.2.2.2.2.2.2.2.2.1, r1p0.2.1.2.2.2.2.2.2.2.2.2.2.2.2.2.2.2.1, r1p0.2.1.2.2.2.2.2.2.2.2.2.2.2.2.2.2.2.2)) (o0aa := (r1p0.2.2.1.1, r1p0.2.2.1.2.1, r1p0.2.2.1.2.2.1, r1p0.2.2.1.2.2.2)) (o0aaa := (r1p0.2.2.2.1.1, r1p0.2.2.2.1.2.1, r1p0.2.2.2.1.2.2.1, r1p0.2.2.2.1.2.2.2)) (q0aaab := r1p0.2.2.2.2.1) (o0aaac := (r1p0.2.2.2.2.2.1.1, r1p0.2.2.2.2.2.1.2.1, r1p0.2.2.2.2.2.1.2.2.1, r1p0.2.2.2.2.2.1.2.2.2.1, r1p0.2.2.2.2.2.1.2.2.2.2.1, r1p0.2.2.2.2.2.1.2.2.2.2.2.1, r1p0.2.2.2.2.2.1.2.2.2.2.2.2)) (q0aaacb := r1p0.2.2.2.2.2.2.1) (q0aaacc := r1p0.2.2.2.2.2.2.2.1) (q0aah := r1p0.2.2.2.2.2.2.2.2.1) (q0aak := r1p0.2.2.2.2.2.2.2.2.2.1) (q0b := r1p0.2.2.2.2.2.2.2.2.2.2)  hg2) (fun x3 => ?_)
  refine T.move .list rfl (wants0 rfl) rfl rfl ?_
  refine T.extract .list rfl (wants0 rfl) rfl rfl rfl ?_
  refine T.extract .list rfl (wants0 rfl) rfl rfl rfl ?_
  refine T.extract .list rfl (wants0 rfl) rfl rfl rfl ?_
  refine T.assign .list rfl (wants0 rfl) rfl rfl ?_
  refine T.assign .list rfl (wants0 rfl) rfl rfl ?_
  refine T.assign .list rfl (wants0 rfl) rfl rfl ?_
  refine T.nil ?_
  refine T.then_normal ?_
  refine T.seq ?_
  refine T.region ?_
  refine T.move .list rfl (wants0 rfl) rfl rfl ?_
  refine T.pick [0, 1, 2, 3, 4, 5, 6, 7, 8, 9, 10] 11 rfl rfl (Nat.le_add_left _ _) (hs' := Cl x2.1 99 [.pointer (some ⟨x2.2.1, 0, none⟩), .slice x2.2.2.2.2.2.2.2.2.2.2.1 r1p0.2.2.2.2.2.2.2.2.2.2.length x2.2.2.2.2.2.2.2.2.2.2.2] :: Cl x2.2.1 89 [.pointer (some ⟨x2.2.2.1, 0, none⟩), .int .i64 r1p0.2.1.1, .int .i64 r1p0.2.1.2.1, .int .i64 r1p0.2.1.2.2.1, .int .i64 r1p0.2.1.2.2.2.1, .int .i64 r1p0.2.1.2.2.2.2.1, .int .i64 r1p0.2.1.2.2.2.2.2.1, .int .i64 r1p0.2.1.2.2.2.2.2.2.1, .int .i64 r1p0.2.1.2.2.2.2.2.2.2.1, .int .i64 r1p0.2.1.2.2.2.2.2.2.2.2.1, .int .i64 r1p0.2.1.2.2.2.2.2.2.2.2.2.1, .int .i64 r1p0.2.1.2.2.2.2.2.2.2.2.2.2.1, .int .i64 r1p0.2.1.2.2.2.2.2.2.2.2.2.2.2.1, .int .i64 r1p0.2.1.2.2.2.2.2.2.2.2.2.2.2.2.1, .int .i64 r1p0.2.1.2.2.2.2.2.2.2.2.2.2.2.2.2.1, .int .i64 r1p0.2.1.2.2.2.2.2.2.2.2.2.2.2.2.2.2.1, .int .i64 r1p0.2.1.2.2.2.2.2.2.2.2.2.2.2.2.2.2.2.1, .int .i64 r1p0.2.1.2.2.2.2.2.2.2.2.2.2.2.2.2.2.2.2] :: Cl x2.2.2.1 115 [.pointer (some ⟨x2.2.2.2.1, 0, none⟩), .nilIface, .int .i64 r1p0.2.2.1.1, .int .i64 r1p0.2.2.1.2.1, .nilIface, .int .i64 r1p0.2.2.1.2.2.1, .int .i64 r1p0.2.2.1.2.2.2, .map (some x2.2.2.2.2.2.2.2.2.1), .slice none 0 0, .slice none 0 0, .map (some x2.2.2.2.2.2.2.2.2.2.1)] :: Cl x2.2.2.2.1 134 [.int .i64 r1p0.2.2.2.1.1, .map (some x2.2.2.2.2.1), .pointer (some ⟨x2.2.2.2.2.2.1, 0, none⟩), .int .i64 r1p0.2.2.2.1.2.1, .int .u64 r1p0.2.2.2.1.2.2.1, .int .i64 r1p0.2.2.2.1.2.2.2] :: Mp E64 x2.2.2.2.2.1 r1p0.2.2.2.2.1 :: Cl x2.2.2.2.2.2.1 83 [.int .i64 r1p0.2.2.2.2.2.1.1, .map (some x2.2.2.2.2.2.2.1), .slice x2.2.2.2.2.2.2.2.1.1 r1p0.2.2.2.2.2.2.2.1.length x2.2.2.2.2.2.2.2.1.2, .bool r1p0.2.2.2.2.2.1.2.1, .int .i64 r1p0.2.2.2.2.2.1.2.2.1, .int .i64 r1p0.2.2.2.2.2.1.2.2.2.1, .int .u64 r1p0.2.2.2.2.2.1.2.2.2.2.1, .int .i64 r1p0.2.2.2.2.2.1.2.2.2.2.2.1, .int .i64 r1p0.2.2.2.2.2.1.2.2.2.2.2.2] :: Mp (Elt.slice E8) x2.2.2.2.2.2.2.1 r1p0.2.2.2.2.2.2.1 :: Bf (Elt.pair E64 (Elt.slice E8)) 158 x2.2.2.2.2.2.2.2.1.1 x2.2.2.2.2.2.2.2.1.2 r1p0.2.2.2.2.2.2.2.1 :: Mp E64 x2.2.2.2.2.2.2.2.2.1 r1p0.2.2.2.2.2.2.2.2.1 :: Mp E64 x2.2.2.2.2.2.2.2.2.2.1 r1p0.2.2.2.2.2.2.2.2.2.1 :: Bf (Elt.pair (Elt.pair E64 (Elt.pair (Elt.slice E8) (Elt.slice E8))) EBool) 102 x2.2.2.2.2.2.2.2.2.2.2.1 x2.2.2.2.2.2.2.2.2.2.2.2 r1p0.2.2.2.2.2.2.2.2.2.2 :: hs) rfl ?_
  obtain ⟨r3, hg3, hr⟩ := inv_bind hr
  refine T.call .list (wants0 rfl) rfl (run_callF (vs := [_, _, _]) rfl Try.func7 rfl (by decide) rfl) (fun w hS => view_Note.c hS (o0a := (r1p0.2.1.1, r1p0.2.1.2.1, r1p0.2.1.2.2.1, r1p0.2.1.2.2.2.1, r1p0.2.1.2.2.2.2.1, r1p0.2.1.2.2.2.2.2.1, r1p0.2.1.2.2.2.2.2.2.1, r1p0.2.1.2.2.2.2.2.2.2.1, r1p0.2.1.2.2.2.2.2.2.2.2.1, r1p0.2.1.2.2.2.2.2.2.2.2.2.1, r1p0.2.1.2.2.2.2.2.2.2.2.2.2.1, r1p0.2.1.2.2.2.2.2.2.2.2.2.2.2.1, r1p0.2.1.2.2.2.2.2.2.2.2.2.2.2.2.1, r1p0.2.1.2.2.2.2.2.2.2.2.2.2.2.2.2.1, r1p0.2.1.2.2.2.2.2.2.2.2.2.2.2.2.2.2.1, r1p0.2.1.2.2.2.2.2.2.2.2.2.2.2.2.2.2.2.1, r1p0.2.1.2.2.2.2.2.2.2.2.2.2.2.2.2.2.2.2)) (o0aa := (r1p0.2.2.1.1, r1p0.2.2.1.2.1, r1p0.2.2.1.2.2.1, r1p0.2.2.1.2.2.2)) (o0aaa := (r1p0.2.2.2.1.1, r1p0.2.2.2.1.2.1, r1p0.2.2.2.1.2.2.1, r1p0.2.2.2.1.2.2.2)) (q0aaab := r1p0.2.2.2.2.1) (o0aaac := (r1p0.2.2.2.2.2.1.1, r1p0.2.2.2.2.2.1.2.1, r1p0.2.2.2.2.2.1.2.2.1, r1p0.2.2.2.2.2.1.2.2.2.1, r1p0.2.2.2.2.2.1.2.2.2.2.1, r1p0.2.2.2.2.2.1.2.2.2.2.2.1, r1p0.2.2.2.2.2.1.2.2.2.2.2.2)) (q0aaacb := r1p0.2.2.2.2.2.2.1) (q0aaacc := r1p0.2.2.2.2.2.2.2.1) (q0aah := r1p0.2.2.2.2.2.2.2.2.1) (q0aak := r1p0.2.2.2.2.2.2.2.2.2.1) (q0b := r1p0.2.2.2.2.2.2.2.2.2.2)  hg3) (fun x4 => ?_)
  refine T.nil ?_
  refine T.then_normal ?_
  refine T.seq ?_
  refine T.region ?_
  refine T.move .list rfl (wants0 rfl) rfl rfl ?_
  refine T.pick [0, 1, 2, 3, 4, 5, 6, 7, 8, 9, 10] 11 rfl rfl (Nat.le_add_left _ _) (hs' := Cl x2.1 99 [.pointer (some ⟨x2.2.1, 0, none⟩), .slice x4.1 r3.2.length x4.2] :: Cl x2.2.1 89 [.pointer (some ⟨x2.2.2.1, 0, none⟩), .int .i64 r1p0.2.1.1, .int .i64 r1p0.2.1.2.1, .int .i64 r1p0.2.1.2.2.1, .int .i64 r1p0.2.1.2.2.2.1, .int .i64 r1p0.2.1.2.2.2.2.1, .int .i64 r1p0.2.1.2.2.2.2.2.1, .int .i64 r1p0.2.1.2.2.2.2.2.2.1, .int .i64 r1p0.2.1.2.2.2.2.2.2.2.1, .int .i64 r1p0.2.1.2.2.2.2.2.2.2.2.1, .int .i64 r1p0.2.1.2.2.2.2.2.2.2.2.2.1, .int .i64 r1p0.2.1.2.2.2.2.2.2.2.2.2.2.1, .int .i64 r1p0.2.1.2.2.2.2.2.2.2.2.2.2.2.1, .int .i64 r1p0.2.1.2.2.2.2.2.2.2.2.2.2.2.2.1, .int .i64 r1p0.2.1.2.2.2.2.2.2.2.2.2.2.2.2.2.1, .int .i64 r1p0.2.1.2.2.2.2.2.2.2.2.2.2.2.2.2.2.1, .int .i64 r1p0.2.1.2.2.2.2.2.2.2.2.2.2.2.2.2.2.2.1, .int .i64 r1p0.2.1.2.2.2.2.2.2.2.2.2.2.2.2.2.2.2.2] :: Cl x2.2.2.1 115 [.pointer (some ⟨x2.2.2.2.1, 0, none⟩), .nilIface, .int .i64 r1p0.2.2.1.1, .int .i64 r1p0.2.2.1.2.1, .nilIface, .int .i64 r1p0.2.2.1.2.2.1, .int .i64 r1p0.2.2.1.2.2.2, .map (some x2.2.2.2.2.2.2.2.2.1), .slice none 0 0, .slice none 0 0, .map (some x2.2.2.2.2.2.2.2.2.2.1)] :: Cl x2.2.2.2.1 134 [.int .i64 r1p0.2.2.2.1.1, .map (some x2.2.2.2.2.1), .pointer (some ⟨x2.2.2.2.2.2.1, 0, none⟩), .int .i64 r1p0.2.2.2.1.2.1, .int .u64 r1p0.2.2.2.1.2.2.1, .int .i64 r1p0.2.2.2.1.2.2.2] :: Mp E64 x2.2.2.2.2.1 r1p0.2.2.2.2.1 :: Cl x2.2.2.2.2.2.1 83 [.int .i64 r1p0.2.2.2.2.2.1.1, .map (some x2.2.2.2.2.2.2.1), .slice x2.2.2.2.2.2.2.2.1.1 r1p0.2.2.2.2.2.2.2.1.length x2.2.2.2.2.2.2.2.1.2, .bool r1p0.2.2.2.2.2.1.2.1, .int .i64 r1p0.2.2.2.2.2.1.2.2.1, .int .i64 r1p0.2.2.2.2.2.1.2.2.2.1, .int .u64 r1p0.2.2.2.2.2.1.2.2.2.2.1, .int .i64 r1p0.2.2.2.2.2.1.2.2.2.2.2.1, .int .i64 r1p0.2.2.2.2.2.1.2.2.2.2.2.2] :: Mp (Elt.slice E8) x2.2.2.2.2.2.2.1 r1p0.2.2.2.2.2.2.1 :: Bf (Elt.pair E64 (Elt.slice E8)) 158 x2.2.2.2.2.2.2.2.1.1 x2.2.2.2.2.2.2.2.1.2 r1p0.2.2.2.2.2.2.2.1 :: Mp E64 x2.2.2.2.2.2.2.2.2.1 r1p0.2.2.2.2.2.2.2.2.1 :: Mp E64 x2.2.2.2.2.2.2.2.2.2.1 r1p0.2.2.2.2.2.2.2.2.2.1 :: Bf (Elt.pair (Elt.pair E64 (Elt.pair (Elt.slice E8) (Elt.slice E8))) EBool) 102 x4.1 x4.2 r3.2 :: hs) rfl ?_
  obtain ⟨r4, hg4, hr⟩ := inv_bind hr
  refine T.call .list (wants0 rfl) rfl (run_callF (vs := [_, _, _]) rfl Try.func7 rfl (by decide) rfl) (fun w hS => view_Note.c hS (o0a := (r1p0.2.1.1, r1p0.2.1.2.1, r1p0.2.1.2.2.1, r1p0.2.1.2.2.2.1, r1p0.2.1.2.2.2.2.1, r1p0.2.1.2.2.2.2.2.1, r1p0.2.1.2.2.2.2.2.2.1, r1p0.2.1.2.2.2.2.2.2.2.1, r1p0.2.1.2.2.2.2.2.2.2.2.1, r1p0.2.1.2.2.2.2.2.2.2.2.2.1, r1p0.2.1.2.2.2.2.2.2.2.2.2.2.1, r1p0.2.1.2.2.2.2.2.2.2.2.2.2.2.1, r1p0.2.1.2.2.2.2.2.2.2.2.2.2.2.2.1, r1p0.2.1.2.2.2.2.2.2.2.2.2.2.2.2.2.1, r1p0.2.1.2.2.2.2.2.2.2.2.2.2.2.2.2.2.1, r1p0.2.1.2.2.2.2.2.2.2.2.2.2.2.2.2.2.2.1, r1p0.2.1.2.2.2.2.2.2.2.2.2.2.2.2.2.2.2.2)) (o0aa := (r1p0.2.2.1.1, r1p0.2.2.1.2.1, r1p0.2.2.1.2.2.1, r1p0.2.2.1.2.2.2)) (o0aaa := (r1p0.2.2.2.1.1, r1p0.2.2.2.1.2.1, r1p0.2.2.2.1.2.2.1, r1p0.2.2.2.1.2.2.2)) (q0aaab := r1p0.2.2.2.2.1) (o0aaac := (r1p0.2.2.2.2.2.1.1, r1p0.2.2.2.2.2.1.2.1, r1p0.2.2.2.2.2.1.2.2.1, r1p0.2.2.2.2.2.1.2.2.2.1, r1p0.2.2.2.2.2.1.2.2.2.2.1, r1p0.2.2.2.2.2.1.2.2.2.2.2.1, r1p0.2.2.2.2.2.1.2.2.2.2.2.2)) (q0aaacb := r1p0.2.2.2.2.2.2.1) (q0aaacc := r1p0.2.2.2.2.2.2.2.1) (q0aah := r1p0.2.2.2.2.2.2.2.2.1) (q0aak := r1p0.2.2.2.2.2.2.2.2.2.1) (q0b := r3.2)  hg4) (fun x5 => ?_)
  refine T.nil ?_
  refine T.then_normal ?_
  refine T.seq ?_
  refine T.region ?_
  refine T.move .list rfl (wants0 rfl) rfl rfl ?_
  refine T.pick [0, 1, 2, 3, 4, 5, 6, 7, 8, 9, 10] 11 rfl rfl (Nat.le_add_left _ _) (hs' := Cl x2.1 99 [.pointer (some ⟨x2.2.1, 0, none⟩), .slice x5.1 r4.2.length x5.2] :: Cl x2.2.1 89 [.pointer (some ⟨x2.2.2.1, 0, none⟩), .int .i64 r1p0.2.1.1, .int .i64 r1p0.2.1.2.1, .int .i64 r1p0.2.1.2.2.1, .int .i64 r1p0.2.1.2.2.2.1, .int .i64 r1p0.2.1.2.2.2.2.1, .int .i64 r1p0.2.1.2.2.2.2.2.1, .int .i64 r1p0.2.1.2.2.2.2.2.2.1, .int .i64 r1p0.2.1.2.2.2.2.2.2.2.1, .int .i64 r1p0.2.1.2.2.2.2.2.2.2.2.1, .int .i64 r1p0.2.1.2.2.2.2.2.2.2.2.2.1, .int .i64 r1p0.2.1.2.2.2.2.2.2.2.2.2.2.1, .int .i64 r1p0.2.1.2.2.2.2.2.2.2.2.2.2.2.1, .int .i64 r1p0.2.1.2.2.2.2.2.2.2.2.2.2.2.2.1, .int .i64 r1p0.2.1.2.2.2.2.2.2.2.2.2.2.2.2.2.1, .int .i64 r1p0.2.1.2.2.2.2.2.2.2.2.2.2.2.2.2.2.1, .int .i64 r1p0.2.1.2.2.2.2.2.2.2.2.2.2.2.2.2.2.2.1, .int .i64 r1p0.2.1.2.2.2.2.2.2.2.2.2.2.2.2.2.2.2.2] :: Cl x2.2.2.1 115 [.pointer (some ⟨x2.2.2.2.1, 0, none⟩), .nilIface, .int .i64 r1p0.2.2.1.1, .int .i64 r1p0.2.2.1.2.1, .nilIface, .int .i64 r1p0.2.2.1.2.2.1, .int .i64 r1p0.2.2.1.2.2.2, .map (some x2.2.2.2.2.2.2.2.2.1), .slice none 0 0, .slice none 0 0, .map (some x2.2.2.2.2.2.2.2.2.2.1)] :: Cl x2.2.2.2.1 134 [.int .i64 r1p0.2.2.2.1.1, .map (some x2.2.2.2.2.1), .pointer (some ⟨x2.2.2.2.2.2.1, 0, none⟩), .int .i64 r1p0.2.2.2.1.2.1, .int .u64 r1p0.2.2.2.1.2.2.1, .int .i64 r1p0.2.2.2.1.2.2.2] :: Mp E64 x2.2.2.2.2.1 r1p0.2.2.2.2.1 :: Cl x2.2.2.2.2.2.1 83 [.int .i64 r1p0.2.2.2.2.2.1.1, .map (some x2.2.2.2.2.2.2.1), .slice x2.2.2.2.2.2.2.2.1.1 r1p0.2.2.2.2.2.2.2.1.length x2.2.2.2.2.2.2.2.1.2, .bool r1p0.2.2.2.2.2.1.2.1, .int .i64 r1p0.2.2.2.2.2.1.2.2.1, .int .i64 r1p0.2.2.2.2.2.1.2.2.2.1, .int .u64 r1p0.2.2.2.2.2.1.2.2.2.2.1, .int .i64 r1p0.2.2.2.2.2.1.2.2.2.2.2.1, .int .i64 r1p0.2.2.2.2.2.1.2.2.2.2.2.2] :: Mp (Elt.slice E8) x2.2.2.2.2.2.2.1 r1p0.2.2.2.2.2.2.1 :: Bf (Elt.pair E64 (Elt.slice E8)) 158 x2.2.2.2.2.2.2.2.1.1 x2.2.2.2.2.2.2.2.1.2 r1p0.2.2.2.2.2.2.2.1 :: Mp E64 x2.2.2.2.2.2.2.2.2.1 r1p0.2.2.2.2.2.2.2.2.1 :: Mp E64 x2.2.2.2.2.2.2.2.2.2.1 r1p0.2.2.2.2.2.2.2.2.2.1 :: Bf (Elt.pair (Elt.pair E64 (Elt.pair (Elt.slice E8) (Elt.slice E8))) EBool) 102 x5.1 x5.2 r4.2 :: hs) rfl ?_
  obtain ⟨r5, hg5, hr⟩ := inv_bind hr
  refine T.call .list (wants0 rfl) rfl (run_callF (vs := [_, _]) rfl Try.func9 rfl (by decide) rfl) (fun w hS => view_Get.c hS (o0a := (r1p0.2.1.1, r1p0.2.1.2.1, r1p0.2.1.2.2.1, r1p0.2.1.2.2.2.1, r1p0.2.1.2.2.2.2.1, r1p0.2.1.2.2.2.2.2.1, r1p0.2.1.2.2.2.2.2.2.1, r1p0.2.1.2.2.2.2.2.2.2.1, r1p0.2.1.2.2.2.2.2.2.2.2.1, r1p0.2.1.2.2.2.2.2.2.2.2.2.1, r1p0.2.1.2.2.2.2.2.2.2.2.2.2.1, r1p0.2.1.2.2.2.2.2.2.2.2.2.2.2.1, r1p0.2.1.2.2.2.2.2.2.2.2.2.2.2.2.1, r1p0.2.1.2.2.2.2.2.2.2.2.2.2.2.2.2.1, r1p0.2.1.2.2.2.2.2.2.2.2.2.2.2.2.2.2.1, r1p0.2.1.2.2.2.2.2.2.2.2.2.2.2.2.2.2.2.1, r1p0.2.1.2.2.2.2.2.2.2.2.2.2.2.2.2.2.2.2)) (o0aa := (r1p0.2.2.1.1, r1p0.2.2.1.2.1, r1p0.2.2.1.2.2.1, r1p0.2.2.1.2.2.2)) (o0aaa := (r1p0.2.2.2.1.1, r1p0.2.2.2.1.2.1, r1p0.2.2.2.1.2.2.1, r1p0.2.2.2.1.2.2.2)) (q0aaab := r1p0.2.2.2.2.1) (o0aaac := (r1p0.2.2.2.2.2.1.1, r1p0.2.2.2.2.2.1.2.1, r1p0.2.2.2.2.2.1.2.2.1, r1p0.2.2.2.2.2.1.2.2.2.1, r1p0.2.2.2.2.2.1.2.2.2.2.1, r1p0.2.2.2.2.2.1.2.2.2.2.2.1, r1p0.2.2.2.2.2.1.2.2.2.2.2.2)) (q0aaacb := r1p0.2.2.2.2.2.2.1) (q0aaacc := r1p0.2.2.2.2.2.2.2.1) (q0aah := r1p0.2.2.2.2.2.2.2.2.1) (q0aak := r1p0.2.2.2.2.2.2.2.2.2.1) (q0b := r4.2)  hg5) (fun x6 => ?_)
  refine T.move .list rfl (wants0 rfl) rfl rfl ?_
  refine T.extract .list rfl (wants0 rfl) rfl rfl rfl ?_
  refine T.extract .list rfl (wants0 rfl) rfl rfl rfl ?_
  refine T.extract .list rfl (wants0 rfl) rfl rfl rfl ?_
  refine T.assign .list rfl (wants0 rfl) rfl rfl ?_
  refine T.assign .list rfl (wants0 rfl) rfl rfl ?_
  refine T.assign .list rfl (wants0 rfl) rfl rfl ?_
  refine T.nil ?_
  refine T.then_normal ?_
  refine T.seq ?_
  refine T.region ?_
  refine T.move .list rfl (wants0 rfl) rfl rfl ?_
  refine T.pick [0, 1, 2, 3, 4, 5, 6, 7, 8, 9, 10] 11 rfl rfl (Nat.le_add_left _ _) (hs' := Cl x2.1 99 [.pointer (some ⟨x2.2.1, 0, none⟩), .slice x5.1 r4.2.length x5.2] :: Cl x2.2.1 89 [.pointer (some ⟨x2.2.2.1, 0, none⟩), .int .i64 r1p0.2.1.1, .int .i64 r1p0.2.1.2.1, .int .i64 r1p0.2.1.2.2.1, .int .i64 r1p0.2.1.2.2.2.1, .int .i64 r1p0.2.1.2.2.2.2.1, .int .i64 r1p0.2.1.2.2.2.2.2.1, .int .i64 r1p0.2.1.2.2.2.2.2.2.1, .int .i64 r1p0.2.1.2.2.2.2.2.2.2.1, .int .i64 r1p0.2.1.2.2.2.2.2.2.2.2.1, .int .i64 r1p0.2.1.2.2.2.2.2.2.2.2.2.1, .int .i64 r1p0.2.1.2.2.2.2.2.2.2.2.2.2.1, .int .i64 r1p0.2.1.2.2.2.2.2.2.2.2.2.2.2.1, .int .i64 r1p0.2.1.2.2.2.2.2.2.2.2.2.2.2.2.1, .int .i64 r1p0.2.1.2.2.2.2.2.2.2.2.2.2.2.2.2.1, .int .i64 r1p0.2.1.2.2.2.2.2.2.2.2.2.2.2.2.2.2.1, .int .i64 r1p0.2.1.2.2.2.2.2.2.2.2.2.2.2.2.2.2.2.1, .int .i64 r1p0.2.1.2.2.2.2.2.2.2.2.2.2.2.2.2.2.2.2] :: Cl x2.2.2.1 115 [.pointer (some ⟨x2.2.2.2.1, 0, none⟩), .nilIface, .int .i64 r1p0.2.2.1.1, .int .i64 r1p0.2.2.1.2.1, .nilIface, .int .i64 r1p0.2.2.1.2.2.1, .int .i64 r1p0.2.2.1.2.2.2, .map (some x2.2.2.2.2.2.2.2.2.1), .slice none 0 0, .slice none 0 0, .map (some x2.2.2.2.2.2.2.2.2.2.1)] :: Cl x2.2.2.2.1 134 [.int .i64 r1p0.2.2.2.1.1, .map (some x2.2.2.2.2.1), .pointer (some ⟨x2.2.2.2.2.2.1, 0, none⟩), .int .i64 r1p0.2.2.2.1.2.1, .int .u64 r1p0.2.2.2.1.2.2.1, .int .i64 r1p0.2.2.2.1.2.2.2] :: Mp E64 x2.2.2.2.2.1 r1p0.2.2.2.2.1 :: Cl x2.2.2.2.2.2.1 83 [.int .i64 r1p0.2.2.2.2.2.1.1, .map (some x2.2.2.2.2.2.2.1), .slice x2.2.2.2.2.2.2.2.1.1 r1p0.2.2.2.2.2.2.2.1.length x2.2.2.2.2.2.2.2.1.2, .bool r1p0.2.2.2.2.2.1.2.1, .int .i64 r1p0.2.2.2.2.2.1.2.2.1, .int .i64 r1p0.2.2.2.2.2.1.2.2.2.1, .int .u64 r1p0.2.2.2.2.2.1.2.2.2.2.1, .int .i64 r1p0.2.2.2.2.2.1.2.2.2.2.2.1, .int .i64 r1p0.2.2.2.2.2.1.2.2.2.2.2.2] :: Mp (Elt.slice E8) x2.2.2.2.2.2.2.1 r1p0.2.2.2.2.2.2.1 :: Bf (Elt.pair E64 (Elt.slice E8)) 158 x2.2.2.2.2.2.2.2.1.1 x2.2.2.2.2.2.2.2.1.2 r1p0.2.2.2.2.2.2.2.1 :: Mp E64 x2.2.2.2.2.2.2.2.2.1 r1p0.2.2.2.2.2.2.2.2.1 :: Mp E64 x2.2.2.2.2.2.2.2.2.2.1 r1p0.2.2.2.2.2.2.2.2.2.1 :: Bf (Elt.pair (Elt.pair E64 (Elt.pair (Elt.slice E8) (Elt.slice E8))) EBool) 102 x5.1 x5.2 r4.2 :: hs) rfl ?_
  obtain ⟨r6, hg6, hr⟩ := inv_bind hr
  refine T.call .list (wants0 rfl) rfl (run_callF (vs := [_, _, _]) rfl Try.func7 rfl (by decide) rfl) (fun w hS => view_Note.c hS (o0a := (r1p0.2.1.1, r1p0.2.1.2.1, r1p0.2.1.2.2.1, r1p0.2.1.2.2.2.1, r1p0.2.1.2.2.2.2.1, r1p0.2.1.2.2.2.2.2.1, r1p0.2.1.2.2.2.2.2.2.1, r1p0.2.1.2.2.2.2.2.2.2.1, r1p0.2.1.2.2.2.2.2.2.2.2.1, r1p0.2.1.2.2.2.2.2.2.2.2.2.1, r1p0.2.1.2.2.2.2.2.2.2.2.2.2.1, r1p0.2.1.2.2.2.2.2.2.2.2.2.2.2.1, r1p0.2.1.2.2.2.2.2.2.2.2.2.2.2.2.1, r1p0.2.1.2.2.2.2.2.2.2.2.2.2.2.2.2.1, r1p0.2.1.2.2.2.2.2.2.2.2.2.2.2.2.2.2.1, r1p0.2.1.2.2.2.2.2.2.2.2.2.2.2.2.2.2.2.1, r1p0.2.1.2.2.2.2.2.2.2.2.2.2.2.2.2.2.2.2)) (o0aa := (r1p0.2.2.1.1, r1p0.2.2.1.2.1, r1p0.2.2.1.2.2.1, r1p0.2.2.1.2.2.2)) (o0aaa := (r1p0.2.2.2.1.1, r1p0.2.2.2.1.2.1, r1p0.2.2.2.1.2.2.1, r1p0.2.2.2.1.2.2.2)) (q0aaab := r1p0.2.2.2.2.1) (o0aaac := (r1p0.2.2.2.2.2.1.1, r1p0.2.2.2.2.2.1.2.1, r1p0.2.2.2.2.2.1.2.2.1, r1p0.2.2.2.2.2.1.2.2.2.1, r1p0.2.2.2.2.2.1.2.2.2.2.1, r1p0.2.2.2.2.2.1.2.2.2.2.2.1, r1p0.2.2.2.2.2.1.2.2.2.2.2.2)) (q0aaacb := r1p0.2.2.2.2.2.2.1) (q0aaacc := r1p0.2.2.2.2.2.2.2.1) (q0aah := r1p0.2.2.2.2.2.2.2.2.1) (q0aak := r1p0.2.2.2.2.2.2.2.2.2.1) (q0b := r4.2)  hg6) (fun x7 => ?_)
  refine T.nil ?_
  refine T.then_normal ?_
  refine T.seq ?_
  refine T.region ?_
  refine T.move .list rfl (wants0 rfl) rfl rfl ?_
  refine T.pick [0, 1, 2, 3, 4, 5, 6, 7, 8, 9, 10] 11 rfl rfl (Nat.le_add_left _ _) (hs' := Cl x2.1 99 [.pointer (some ⟨x2.2.1, 0, none⟩), .slice x7.1 r6.2.length x7.2] :: Cl x2.2.1 89 [.pointer (some ⟨x2.2.2.1, 0, none⟩), .int .i64 r1p0.2.1.1, .int .i64 r1p0.2.1.2.1, .int .i64 r1p0.2.1.2.2.1, .int .i64 r1p0.2.1.2.2.2.1, .int .i64 r1p0.2.1.2.2.2.2.1, .int .i64 r1p0.2.1.2.2.2.2.2.1, .int .i64 r1p0.2.1.2.2.2.2.2.2.1, .int .i64 r1p0.2.1.2.2.2.2.2.2.2.1, .int .i64 r1p0.2.1.2.2.2.2.2.2.2.2.1, .int .i64 r1p0.2.1.2.2.2.2.2.2.2.2.2.1, .int .i64 r1p0.2.1.2.2.2.2.2.2.2.2.2.2.1, .int .i64 r1p0.2.1.2.2.2.2.2.2.2.2.2.2.2.1, .int .i64 r1p0.2.1.2.2.2.2.2.2.2.2.2.2.2.2.1, .int .i64 r1p0.2.1.2.2.2.2.2.2.2.2.2.2.2.2.2.1, .int .i64 r1p0.2.1.2.2.2.2.2.2.2.2.2.2.2.2.2.2.1, .int .i64 r1p0.2.1.2.2.2.2.2.2.2.2.2.2.2.2.2.2.2.1, .int .i64 r1p0.2.1.2.2.2.2.2.2.2.2.2.2.2.2.2.2.2.2] :: Cl x2.2.2.1 115 [.pointer (some ⟨x2.2.2.2.1, 0, none⟩), .nilIface, .int .i64 r1p0.2.2.1.1, .int .i64 r1p0.2.2.1.2.1, .nilIface, .int .i64 r1p0.2.2.1.2.2.1, .int .i64 r1p0.2.2.1.2.2.2, .map (some x2.2.2.2.2.2.2.2.2.1), .slice none 0 0, .slice none 0 0, .map (some x2.2.2.2.2.2.2.2.2.2.1)] :: Cl x2.2.2.2.1 134 [.int .i64 r1p0.2.2.2.1.1, .map (some x2.2.2.2.2.1), .pointer (some ⟨x2.2.2.2.2.2.1, 0, none⟩), .int .i64 r1p0.2.2.2.1.2.1, .int .u64 r1p0.2.2.2.1.2.2.1, .int .i64 r1p0.2.2.2.1.2.2.2] :: Mp E64 x2.2.2.2.2.1 r1p0.2.2.2.2.1 :: Cl x2.2.2.2.2.2.1 83 [.int .i64 r1p0.2.2.2.2.2.1.1, .map (some x2.2.2.2.2.2.2.1), .slice x2.2.2.2.2.2.2.2.1.1 r1p0.2.2.2.2.2.2.2.1.length x2.2.2.2.2.2.2.2.1.2, .bool r1p0.2.2.2.2.2.1.2.1, .int .i64 r1p0.2.2.2.2.2.1.2.2.1, .int .i64 r1p0.2.2.2.2.2.1.2.2.2.1, .int .u64 r1p0.2.2.2.2.2.1.2.2.2.2.1, .int .i64 r1p0.2.2.2.2.2.1.2.2.2.2.2.1, .int .i64 r1p0.2.2.2.2.2.1.2.2.2.2.2.2] :: Mp (Elt.slice E8) x2.2.2.2.2.2.2.1 r1p0.2.2.2.2.2.2.1 :: Bf (Elt.pair E64 (Elt.slice E8)) 158 x2.2.2.2.2.2.2.2.1.1 x2.2.2.2.2.2.2.2.1.2 r1p0.2.2.2.2.2.2.2.1 :: Mp E64 x2.2.2.2.2.2.2.2.2.1 r1p0.2.2.2.2.2.2.2.2.1 :: Mp E64 x2.2.2.2.2.2.2.2.2.2.1 r1p0.2.2.2.2.2.2.2.2.2.1 :: Bf (Elt.pair (Elt.pair E64 (Elt.pair (Elt.slice E8) (Elt.slice E8))) EBool) 102 x7.1 x7.2 r6.2 :: hs) rfl ?_
  obtain ⟨r7, hg7, hr⟩ := inv_bind hr
  refine T.call .list (wants0 rfl) rfl (run_callF (vs := [_]) rfl Try.func13 rfl (by decide) rfl) (fun w hS => view_Least.c hS (o0a := (r1p0.2.1.1, r1p0.2.1.2.1, r1p0.2.1.2.2.1, r1p0.2.1.2.2.2.1, r1p0.2.1.2.2.2.2.1, r1p0.2.1.2.2.2.2.2.1, r1p0.2.1.2.2.2.2.2.2.1, r1p0.2.1.2.2.2.2.2.2.2.1, r1p0.2.1.2.2.2.2.2.2.2.2.1, r1p0.2.1.2.2.2.2.2.2.2.2.2.1, r1p0.2.1.2.2.2.2.2.2.2.2.2.2.1, r1p0.2.1.2.2.2.2.2.2.2.2.2.2.2.1, r1p0.2.1.2.2.2.2.2.2.2.2.2.2.2.2.1, r1p0.2.1.2.2.2.2.2.2.2.2.2.2.2.2.2.1, r1p0.2.1.2.2.2.2.2.2.2.2.2.2.2.2.2.2.1, r1p0.2.1.2.2.2.2.2.2.2.2.2.2.2.2.2.2.2.1, r1p0.2.1.2.2.2.2.2.2.2.2.2.2.2.2.2.2.2.2)) (o0aa := (r1p0.2.2.1.1, r1p0.2.2.1.2.1, r1p0.2.2.1.2.2.1, r1p0.2.2.1.2.2.2)) (o0aaa := (r1p0.2.2.2.1.1, r1p0.2.2.2.1.2.1, r1p0.2.2.2.1.2.2.1, r1p0.2.2.2.1.2.2.2)) (q0aaab := r1p0.2.2.2.2.1) (o0aaac := (r1p0.2.2.2.2.2.1.1, r1p0.2.2.2.2.2.1.2.1, r1p0.2.2.2.2.2.1.2.2.1, r1p0.2.2.2.2.2.1.2.2.2.1, r1p0.2.2.2.2.2.1.2.2.2.2.1, r1p0.2.2.2.2.2.1.2.2.2.2.2.1, r1p0.2.2.2.2.2.1.2.2.2.2.2.2)) (q0aaacb := r1p0.2.2.2.2.2.2.1) (q0aaacc := r1p0.2.2.2.2.2.2.2.1) (q0aah := r1p0.2.2.2.2.2.2.2.2.1) (q0aak := r1p0.2.2.2.2.2.2.2.2.2.1) (q0b := r6.2)  hg7) (fun x8 => ?_)
  refine T.move .list rfl (wants0 rfl) rfl rfl ?_
  refine T.extract .list rfl (wants0 rfl) rfl rfl rfl ?_
  refine T.extract .list rfl (wants0 rfl) rfl rfl rfl ?_
  refine T.extract .list rfl (wants0 rfl) rfl rfl rfl ?_
  refine T.assign .list rfl (wants0 rfl) rfl rfl ?_
  refine T.assign .list rfl (wants0 rfl) rfl rfl ?_
  refine T.assign .list rfl (wants0 rfl) rfl rfl ?_
  refine T.nil ?_
  refine T.then_normal ?_
  refine T.seq ?_
  refine T.region ?_
  refine T.move .list rfl (wants0 rfl) rfl rfl ?_
  refine T.pick [0, 1, 2, 3, 4, 5, 6, 7, 8, 9, 10] 11 rfl rfl (Nat.le_add_left _ _) (hs' := Cl x2.1 99 [.pointer (some ⟨x2.2.1, 0, none⟩), .slice x7.1 r6.2.length x7.2] :: Cl x2.2.1 89 [.pointer (some ⟨x2.2.2.1, 0, none⟩), .int .i64 r1p0.2.1.1, .int .i64 r1p0.2.1.2.1, .int .i64 r1p0.2.1.2.2.1, .int .i64 r1p0.2.1.2.2.2.1, .int .i64 r1p0.2.1.2.2.2.2.1, .int .i64 r1p0.2.1.2.2.2.2.2.1, .int .i64 r1p0.2.1.2.2.2.2.2.2.1, .int .i64 r1p0.2.1.2.2.2.2.2.2.2.1, .int .i64 r1p0.2.1.2.2.2.2.2.2.2.2.1, .int .i64 r1p0.2.1.2.2.2.2.2.2.2.2.2.1, .int .i64 r1p0.2.1.2.2.2.2.2.2.2.2.2.2.1, .int .i64 r1p0.2.1.2.2.2.2.2.2.2.2.2.2.2.1, .int .i64 r1p0.2.1.2.2.2.2.2.2.2.2.2.2.2.2.1, .int .i64 r1p0.2.1.2.2.2.2.2.2.2.2.2.2.2.2.2.1, .int .i64 r1p0.2.1.2.2.2.2.2.2.2.2.2.2.2.2.2.2.1, .int .i64 r1p0.2.1.2.2.2.2.2.2.2.2.2.2.2.2.2.2.2.1, .int .i64 r1p0.2.1.2.2.2.2.2.2.2.2.2.2.2.2.2.2.2.2] :: Cl x2.2.2.1 115 [.pointer (some ⟨x2.2.2.2.1, 0, none⟩), .nilIface, .int .i64 r1p0.2.2.1.1, .int .i64 r1p0.2.2.1.2.1, .nilIface, .int .i64 r1p0.2.2.1.2.2.1, .int .i64 r1p0.2.2.1.2.2.2, .map (some x2.2.2.2.2.2.2.2.2.1), .slice none 0 0, .slice none 0 0, .map (some x2.2.2.2.2.2.2.2.2.2.1)] :: Cl x2.2.2.2.1 134 [.int .i64 r1p0.2.2.2.1.1, .map (some x2.2.2.2.2.1), .pointer (some ⟨x2.2.2.2.2.2.1, 0, none⟩), .int .i64 r1p0.2.2.2.1.2.1, .int .u64 r1p0.2.2.2.1.2.2.1, .int .i64 r1p0.2.2.2.1.2.2.2] :: Mp E64 x2.2.2.2.2.1 r1p0.2.2.2.2.1 :: Cl x2.2.2.2.2.2.1 83 [.int .i64 r1p0.2.2.2.2.2.1.1, .map (some x2.2.2.2.2.2.2.1), .slice x2.2.2.2.2.2.2.2.1.1 r1p0.2.2.2.2.2.2.2.1.length x2.2.2.2.2.2.2.2.1.2, .bool r1p0.2.2.2.2.2.1.2.1, .int .i64 r1p0.2.2.2.2.2.1.2.2.1, .int .i64 r1p0.2.2.2.2.2.1.2.2.2.1, .int .u64 r1p0.2.2.2.2.2.1.2.2.2.2.1, .int .i64 r1p0.2.2.2.2.2.1.2.2.2.2.2.1, .int .i64 r1p0.2.2.2.2.2.1.2.2.2.2.2.2] :: Mp (Elt.slice E8) x2.2.2.2.2.2.2.1 r1p0.2.2.2.2.2.2.1 :: Bf (Elt.pair E64 (Elt.slice E8)) 158 x2.2.2.2.2.2.2.2.1.1 x2.2.2.2.2.2.2.2.1.2 r1p0.2.2.2.2.2.2.2.1 :: Mp E64 x2.2.2.2.2.2.2.2.2.1 r1p0.2.2.2.2.2.2.2.2.1 :: Mp E64 x2.2.2.2.2.2.2.2.2.2.1 r1p0.2.2.2.2.2.2.2.2.2.1 :: Bf (Elt.pair (Elt.pair E64 (Elt.pair (Elt.slice E8) (Elt.slice E8))) EBool) 102 x7.1 x7.2 r6.2 :: hs) rfl ?_
  obtain ⟨r8, hg8, hr⟩ := inv_bind hr
  refine T.call .list (wants0 rfl) rfl (run_callF (vs := [_]) rfl Try.func10 rfl (by decide) rfl) (fun w hS => view_Version.c hS (o0a := (r1p0.2.1.1, r1p0.2.1.2.1, r1p0.2.1.2.2.1, r1p0.2.1.2.2.2.1, r1p0.2.1.2.2.2.2.1, r1p0.2.1.2.2.2.2.2.1, r1p0.2.1.2.2.2.2.2.2.1, r1p0.2.1.2.2.2.2.2.2.2.1, r1p0.2.1.2.2.2.2.2.2.2.2.1, r1p0.2.1.2.2.2.2.2.2.2.2.2.1, r1p0.2.1.2.2.2.2.2.2.2.2.2.2.1, r1p0.2.1.2.2.2.2.2.2.2.2.2.2.2.1, r1p0.2.1.2.2.2.2.2.2.2.2.2.2.2.2.1, r1p0.2.1.2.2.2.2.2.2.2.2.2.2.2.2.2.1, r1p0.2.1.2.2.2.2.2.2.2.2.2.2.2.2.2.2.1, r1p0.2.1.2.2.2.2.2.2.2.2.2.2.2.2.2.2.2.1, r1p0.2.1.2.2.2.2.2.2.2.2.2.2.2.2.2.2.2.2)) (o0aa := (r1p0.2.2.1.1, r1p0.2.2.1.2.1, r1p0.2.2.1.2.2.1, r1p0.2.2.1.2.2.2)) (o0aaa := (r1p0.2.2.2.1.1, r1p0.2.2.2.1.2.1, r1p0.2.2.2.1.2.2.1, r1p0.2.2.2.1.2.2.2)) (q0aaab := r1p0.2.2.2.2.1) (o0aaac := (r1p0.2.2.2.2.2.1.1, r1p0.2.2.2.2.2.1.2.1, r1p0.2.2.2.2.2.1.2.2.1, r1p0.2.2.2.2.2.1.2.2.2.1, r1p0.2.2.2.2.2.1.2.2.2.2.1, r1p0.2.2.2.2.2.1.2.2.2.2.2.1, r1p0.2.2.2.2.2.1.2.2.2.2.2.2)) (q0aaacb := r1p0.2.2.2.2.2.2.1) (q0aaacc := r1p0.2.2.2.2.2.2.2.1) (q0aah := r1p0.2.2.2.2.2.2.2.2.1) (q0aak := r1p0.2.2.2.2.2.2.2.2.2.1) (q0b := r6.2)  hg8) (fun x9 => ?_)
  refine T.move .list rfl (wants0 rfl) rfl rfl ?_
  refine T.extract .list rfl (wants0 rfl) rfl rfl rfl ?_
  refine T.extract .list rfl (wants0 rfl) rfl rfl rfl ?_
  refine T.assign .list rfl (wants0 rfl) rfl rfl ?_
  refine T.assign .list rfl (wants0 rfl) rfl rfl ?_
  refine T.nil ?_
  refine T.then_normal ?_
  refine T.seq ?_
  refine T.region ?_
  refine T.move .list rfl (wants0 rfl) rfl rfl ?_
  refine T.pick [0, 1, 2, 3, 4, 5, 6, 7, 8, 9, 10] 11 rfl rfl (Nat.le_add_left _ _) (hs' := Cl x2.1 99 [.pointer (some ⟨x2.2.1, 0, none⟩), .slice x7.1 r6.2.length x7.2] :: Cl x2.2.1 89 [.pointer (some ⟨x2.2.2.1, 0, none⟩), .int .i64 r1p0.2.1.1, .int .i64 r1p0.2.1.2.1, .int .i64 r1p0.2.1.2.2.1, .int .i64 r1p0.2.1.2.2.2.1, .int .i64 r1p0.2.1.2.2.2.2.1, .int .i64 r1p0.2.1.2.2.2.2.2.1, .int .i64 r1p0.2.1.2.2.2.2.2.2.1, .int .i64 r1p0.2.1.2.2.2.2.2.2.2.1, .int .i64 r1p0.2.1.2.2.2.2.2.2.2.2.1, .int .i64 r1p0.2.1.2.2.2.2.2.2.2.2.2.1, .int .i64 r1p0.2.1.2.2.2.2.2.2.2.2.2.2.1, .int .i64 r1p0.2.1.2.2.2.2.2.2.2.2.2.2.2.1, .int .i64 r1p0.2.1.2.2.2.2.2.2.2.2.2.2.2.2.1, .int .i64 r1p0.2.1.2.2.2.2.2.2.2.2.2.2.2.2.2.1, .int .i64 r1p0.2.1.2.2.2.2.2.2.2.2.2.2.2.2.2.2.1, .int .i64 r1p0.2.1.2.2.2.2.2.2.2.2.2.2.2.2.2.2.2.1, .int .i64 r1p0.2.1.2.2.2.2.2.2.2.2.2.2.2.2.2.2.2.2] :: Cl x2.2.2.1 115 [.pointer (some ⟨x2.2.2.2.1, 0, none⟩), .nilIface, .int .i64 r1p0.2.2.1.1, .int .i64 r1p0.2.2.1.2.1, .nilIface, .int .i64 r1p0.2.2.1.2.2.1, .int .i64 r1p0.2.2.1.2.2.2, .map (some x2.2.2.2.2.2.2.2.2.1), .slice none 0 0, .slice none 0 0, .map (some x2.2.2.2.2.2.2.2.2.2.1)] :: Cl x2.2.2.2.1 134 [.int .i64 r1p0.2.2.2.1.1, .map (some x2.2.2.2.2.1), .pointer (some ⟨x2.2.2.2.2.2.1, 0, none⟩), .int .i64 r1p0.2.2.2.1.2.1, .int .u64 r1p0.2.2.2.1.2.2.1, .int .i64 r1p0.2.2.2.1.2.2.2] :: Mp E64 x2.2.2.2.2.1 r1p0.2.2.2.2.1 :: Cl x2.2.2.2.2.2.1 83 [.int .i64 r1p0.2.2.2.2.2.1.1, .map (some x2.2.2.2.2.2.2.1), .slice x2.2.2.2.2.2.2.2.1.1 r1p0.2.2.2.2.2.2.2.1.length x2.2.2.2.2.2.2.2.1.2, .bool r1p0.2.2.2.2.2.1.2.1, .int .i64 r1p0.2.2.2.2.2.1.2.2.1, .int .i64 r1p0.2.2.2.2.2.1.2.2.2.1, .int .u64 r1p0.2.2.2.2.2.1.2.2.2.2.1, .int .i64 r1p0.2.2.2.2.2.1.2.2.2.2.2.1, .int .i64 r1p0.2.2.2.2.2.1.2.2.2.2.2.2] :: Mp (Elt.slice E8) x2.2.2.2.2.2.2.1 r1p0.2.2.2.2.2.2.1 :: Bf (Elt.pair E64 (Elt.slice E8)) 158 x2.2.2.2.2.2.2.2.1.1 x2.2.2.2.2.2.2.2.1.2 r1p0.2.2.2.2.2.2.2.1 :: Mp E64 x2.2.2.2.2.2.2.2.2.1 r1p0.2.2.2.2.2.2.2.2.1 :: Mp E64 x2.2.2.2.2.2.2.2.2.2.1 r1p0.2.2.2.2.2.2.2.2.2.1 :: Bf (Elt.pair (Elt.pair E64 (Elt.pair (Elt.slice E8) (Elt.slice E8))) EBool) 102 x7.1 x7.2 r6.2 :: hs) rfl ?_
  obtain ⟨r9, hg9, hr⟩ := inv_bind hr
  refine T.call .list (wants0 rfl) rfl (run_callF (vs := [_, _]) rfl Try.func11 rfl (by decide) rfl) (fun w hS => view_Raise.c hS (o0a := (r1p0.2.1.1, r1p0.2.1.2.1, r1p0.2.1.2.2.1, r1p0.2.1.2.2.2.1, r1p0.2.1.2.2.2.2.1, r1p0.2.1.2.2.2.2.2.1, r1p0.2.1.2.2.2.2.2.2.1, r1p0.2.1.2.2.2.2.2.2.2.1, r1p0.2.1.2.2.2.2.2.2.2.2.1, r1p0.2.1.2.2.2.2.2.2.2.2.2.1, r1p0.2.1.2.2.2.2.2.2.2.2.2.2.1, r1p0.2.1.2.2.2.2.2.2.2.2.2.2.2.1, r1p0.2.1.2.2.2.2.2.2.2.2.2.2.2.2.1, r1p0.2.1.2.2.2.2.2.2.2.2.2.2.2.2.2.1, r1p0.2.1.2.2.2.2.2.2.2.2.2.2.2.2.2.2.1, r1p0.2.1.2.2.2.2.2.2.2.2.2.2.2.2.2.2.2.1, r1p0.2.1.2.2.2.2.2.2.2.2.2.2.2.2.2.2.2.2)) (o0aa := (r1p0.2.2.1.1, r1p0.2.2.1.2.1, r1p0.2.2.1.2.2.1, r1p0.2.2.1.2.2.2)) (o0aaa := (r1p0.2.2.2.1.1, r1p0.2.2.2.1.2.1, r1p0.2.2.2.1.2.2.1, r1p0.2.2.2.1.2.2.2)) (q0aaab := r1p0.2.2.2.2.1) (o0aaac := (r1p0.2.2.2.2.2.1.1, r1p0.2.2.2.2.2.1.2.1, r1p0.2.2.2.2.2.1.2.2.1, r1p0.2.2.2.2.2.1.2.2.2.1, r1p0.2.2.2.2.2.1.2.2.2.2.1, r1p0.2.2.2.2.2.1.2.2.2.2.2.1, r1p0.2.2.2.2.2.1.2.2.2.2.2.2)) (q0aaacb := r1p0.2.2.2.2.2.2.1) (q0aaacc := r1p0.2.2.2.2.2.2.2.1) (q0aah := r1p0.2.2.2.2.2.2.2.2.1) (q0aak := r1p0.2.2.2.2.2.2.2.2.2.1) (q0b := r6.2)  hg9) (fun x10 => ?_)
  refine T.move .list rfl (wants0 rfl) rfl rfl ?_
  refine T.extract .list rfl (wants0 rfl) rfl rfl rfl ?_
  refine T.extract .list rfl (wants0 rfl) rfl rfl rfl ?_
  refine T.assign .list rfl (wants0 rfl) rfl rfl ?_
  refine T.assign .list rfl (wants0 rfl) rfl rfl ?_
  refine T.nil ?_
  refine T.then_normal ?_
  refine T.seq ?_
  refine T.region ?_
  refine T.move .list rfl (wants0 rfl) rfl rfl ?_
  refine T.pick [0, 1, 2, 3, 4, 5, 6, 7, 8, 9, 10] 11 rfl rfl (Nat.le_add_left _ _) (hs' := Cl x2.1 99 [.pointer (some ⟨x2.2.1, 0, none⟩), .slice x10.1 r9.2.2.length x10.2] :: Cl x2.2.1 89 [.pointer (some ⟨x2.2.2.1, 0, none⟩), .int .i64 r1p0.2.1.1, .int .i64 r1p0.2.1.2.1, .int .i64 r1p0.2.1.2.2.1, .int .i64 r1p0.2.1.2.2.2.1, .int .i64 r1p0.2.1.2.2.2.2.1, .int .i64 r1p0.2.1.2.2.2.2.2.1, .int .i64 r1p0.2.1.2.2.2.2.2.2.1, .int .i64 r1p0.2.1.2.2.2.2.2.2.2.1, .int .i64 r1p0.2.1.2.2.2.2.2.2.2.2.1, .int .i64 r1p0.2.1.2.2.2.2.2.2.2.2.2.1, .int .i64 r1p0.2.1.2.2.2.2.2.2.2.2.2.2.1, .int .i64 r1p0.2.1.2.2.2.2.2.2.2.2.2.2.2.1, .int .i64 r1p0.2.1.2.2.2.2.2.2.2.2.2.2.2.2.1, .int .i64 r1p0.2.1.2.2.2.2.2.2.2.2.2.2.2.2.2.1, .int .i64 r1p0.2.1.2.2.2.2.2.2.2.2.2.2.2.2.2.2.1, .int .i64 r1p0.2.1.2.2.2.2.2.2.2.2.2.2.2.2.2.2.2.1, .int .i64 r1p0.2.1.2.2.2.2.2.2.2.2.2.2.2.2.2.2.2.2] :: Cl x2.2.2.1 115 [.pointer (some ⟨x2.2.2.2.1, 0, none⟩), .nilIface, .int .i64 r1p0.2.2.1.1, .int .i64 r1p0.2.2.1.2.1, .nilIface, .int .i64 r1p0.2.2.1.2.2.1, .int .i64 r1p0.2.2.1.2.2.2, .map (some x2.2.2.2.2.2.2.2.2.1), .slice none 0 0, .slice none 0 0, .map (some x2.2.2.2.2.2.2.2.2.2.1)] :: Cl x2.2.2.2.1 134 [.int .i64 r1p0.2.2.2.1.1, .map (some x2.2.2.2.2.1), .pointer (some ⟨x2.2.2.2.2.2.1, 0, none⟩), .int .i64 r1p0.2.2.2.1.2.1, .int .u64 r1p0.2.2.2.1.2.2.1, .int .i64 r1p0.2.2.2.1.2.2.2] :: Mp E64 x2.2.2.2.2.1 r1p0.2.2.2.2.1 :: Cl x2.2.2.2.2.2.1 83 [.int .i64 r1p0.2.2.2.2.2.1.1, .map (some x2.2.2.2.2.2.2.1), .slice x2.2.2.2.2.2.2.2.1.1 r1p0.2.2.2.2.2.2.2.1.length x2.2.2.2.2.2.2.2.1.2, .bool r1p0.2.2.2.2.2.1.2.1, .int .i64 r1p0.2.2.2.2.2.1.2.2.1, .int .i64 r1p0.2.2.2.2.2.1.2.2.2.1, .int .u64 r1p0.2.2.2.2.2.1.2.2.2.2.1, .int .i64 r1p0.2.2.2.2.2.1.2.2.2.2.2.1, .int .i64 r1p0.2.2.2.2.2.1.2.2.2.2.2.2] :: Mp (Elt.slice E8) x2.2.2.2.2.2.2.1 r1p0.2.2.2.2.2.2.1 :: Bf (Elt.pair E64 (Elt.slice E8)) 158 x2.2.2.2.2.2.2.2.1.1 x2.2.2.2.2.2.2.2.1.2 r1p0.2.2.2.2.2.2.2.1 :: Mp E64 x2.2.2.2.2.2.2.2.2.1 r1p0.2.2.2.2.2.2.2.2.1 :: Mp E64 x2.2.2.2.2.2.2.2.2.2.1 r1p0.2.2.2.2.2.2.2.2.2.1 :: Bf (Elt.pair (Elt.pair E64 (Elt.pair (Elt.slice E8) (Elt.slice E8))) EBool) 102 x10.1 x10.2 r9.2.2 :: hs) rfl ?_
  obtain ⟨r10, hg10, hr⟩ := inv_bind hr
  refine T.call .list (wants0 rfl) rfl (run_callF (vs := [_]) rfl Try.func10 rfl (by decide) rfl) (fun w hS => view_Version.c hS (o0a := (r1p0.2.1.1, r1p0.2.1.2.1, r1p0.2.1.2.2.1, r1p0.2.1.2.2.2.1, r1p0.2.1.2.2.2.2.1, r1p0.2.1.2.2.2.2.2.1, r1p0.2.1.2.2.2.2.2.2.1, r1p0.2.1.2.2.2.2.2.2.2.1, r1p0.2.1.2.2.2.2.2.2.2.2.1, r1p0.2.1.2.2.2.2.2.2.2.2.2.1, r1p0.2.1.2.2.2.2.2.2.2.2.2.2.1, r1p0.2.1.2.2.2.2.2.2.2.2.2.2.2.1, r1p0.2.1.2.2.2.2.2.2.2.2.2.2.2.2.1, r1p0.2.1.2.2.2.2.2.2.2.2.2.2.2.2.2.1, r1p0.2.1.2.2.2.2.2.2.2.2.2.2.2.2.2.2.1, r1p0.2.1.2.2.2.2.2.2.2.2.2.2.2.2.2.2.2.1, r1p0.2.1.2.2.2.2.2.2.2.2.2.2.2.2.2.2.2.2)) (o0aa := (r1p0.2.2.1.1, r1p0.2.2.1.2.1, r1p0.2.2.1.2.2.1, r1p0.2.2.1.2.2.2)) (o0aaa := (r1p0.2.2.2.1.1, r1p0.2.2.2.1.2.1, r1p0.2.2.2.1.2.2.1, r1p0.2.2.2.1.2.2.2)) (q0aaab := r1p0.2.2.2.2.1) (o0aaac := (r1p0.2.2.2.2.2.1.1, r1p0.2.2.2.2.2.1.2.1, r1p0.2.2.2.2.2.1.2.2.1, r1p0.2.2.2.2.2.1.2.2.2.1, r1p0.2.2.2.2.2.1.2.2.2.2.1, r1p0.2.2.2.2.2.1.2.2.2.2.2.1, r1p0.2.2.2.2.2.1.2.2.2.2.2.2)) (q0aaacb := r1p0.2.2.2.2.2.2.1) (q0aaacc := r1p0.2.2.2.2.2.2.2.1) (q0aah := r1p0.2.2.2.2.2.2.2.2.1) (q0aak := r1p0.2.2.2.2.2.2.2.2.2.1) (q0b := r9.2.2)  hg10) (fun x11 => ?_)
  refine T.move .list rfl (wants0 rfl) rfl rfl ?_
  refine T.extract .list rfl (wants0 rfl) rfl rfl rfl ?_
  refine T.extract .list rfl (wants0 rfl) rfl rfl rfl ?_
  refine T.assign .list rfl (wants0 rfl) rfl rfl ?_
  refine T.assign .list rfl (wants0 rfl) rfl rfl ?_
  refine T.nil ?_
  refine T.then_normal ?_
  refine T.seq ?_
  refine T.region ?_
  obtain ⟨r11, hg11, hr⟩ := inv_bind hr
  refine T.call .list (wants0 rfl) rfl (run_callF (vs := [_]) rfl Try.func10 rfl (by decide) rfl) (fun w hS => view_Version_nil0.c hS  hg11) (fun x12 => ?_)
  refine T.move .list rfl (wants0 rfl) rfl rfl ?_
  refine T.extract .list rfl (wants0 rfl) rfl rfl rfl ?_
  refine T.extract .list rfl (wants0 rfl) rfl rfl rfl ?_
  refine T.assign .list rfl (wants0 rfl) rfl rfl ?_
  refine T.assign .list rfl (wants0 rfl) rfl rfl ?_
  refine T.nil ?_
  refine T.then_normal ?_
  refine T.seq ?_
  refine T.region ?_
  refine T.move .list rfl (wants0 rfl) rfl rfl ?_
  refine T.not .list rfl (wants0 rfl) rfl rfl ?_
  refine T.move .list rfl (wants0 rfl) rfl rfl ?_
  refine T.bool (b := r2.2.1) (fun hb1 => ?_) (fun hb1 => ?_)
  ·replace hr := inv_posB hb1 hr
   refine T.leave .list (wantsNot rfl rfl rfl (not_t hb1)) rfl ?_
   refine T.leave .list (wantsNot rfl rfl rfl (not_t hb1)) rfl ?_
   refine T.pickF .list rfl (wants0 rfl) rfl rfl (not_t hb1) rfl ?_
   refine T.move .list rfl (wants0 rfl) rfl rfl ?_
   refine T.leave .list (wantsNot rfl rfl rfl rfl) rfl ?_
   refine T.leave .list (wantsNot rfl rfl rfl rfl) rfl ?_
   refine T.pickF .list rfl (wants0 rfl) rfl rfl rfl rfl ?_
   refine T.move .list rfl (wants0 rfl) rfl rfl ?_
   refine T.leave .list (wantsNot rfl rfl rfl rfl) rfl ?_
   refine T.pickF .list rfl (wants0 rfl) rfl rfl rfl rfl ?_
   refine T.move .list rfl (wants0 rfl) rfl rfl ?_
   refine T.leave .list (wantsNot rfl rfl rfl rfl) rfl ?_
   refine T.leave .list (wantsNot rfl rfl rfl rfl) rfl ?_
   refine T.pickF .list rfl (wants0 rfl) rfl rfl rfl rfl ?_
   refine T.move .list rfl (wants0 rfl) rfl rfl ?_
   refine T.leave .list (wantsNot rfl rfl rfl rfl) rfl ?_
   refine T.leave .list (wantsNot rfl rfl rfl rfl) rfl ?_
   refine T.pickF .list rfl (wants0 rfl) rfl rfl rfl rfl ?_
   refine T.move .list rfl (wants0 rfl) rfl rfl ?_
   refine T.leave .list (wantsNot rfl rfl rfl rfl) rfl ?_
   refine T.pickF .list rfl (wants0 rfl) rfl rfl rfl rfl ?_
   refine T.move .list rfl (wants0 rfl) rfl rfl ?_
   refine T.leave .list (wantsNot rfl rfl rfl rfl) rfl ?_
   refine T.leave .list (wantsNot rfl rfl rfl rfl) rfl ?_
   refine T.pickF .list rfl (wants0 rfl) rfl rfl rfl rfl ?_
   refine T.move .list rfl (wants0 rfl) rfl rfl ?_
   refine T.leave .list (wantsNot rfl rfl rfl rfl) rfl ?_
   refine T.leave .list (wantsNot rfl rfl rfl rfl) rfl ?_
   refine T.pickF .list rfl (wants0 rfl) rfl rfl rfl rfl ?_
   refine T.move .list rfl (wants0 rfl) rfl rfl ?_
   refine T.leave .list (wantsNot rfl rfl rfl rfl) rfl ?_
   refine T.leave .list (wantsNot rfl rfl rfl rfl) rfl ?_
   refine T.pickF .list rfl (wants0 rfl) rfl rfl rfl rfl ?_
   refine T.move .list rfl (wants0 rfl) rfl rfl ?_
   refine T.leave .list (wantsNot rfl rfl rfl rfl) rfl ?_
   refine T.pickF .list rfl (wants0 rfl) rfl rfl rfl rfl ?_
   refine T.move .list rfl (wants0 rfl) rfl rfl ?_
   refine T.leave .list (wantsNot rfl rfl rfl rfl) rfl ?_
   refine T.leave .list (wantsNot rfl rfl rfl rfl) rfl ?_
   refine T.pickF .list rfl (wants0 rfl) rfl rfl rfl rfl ?_
   refine T.move .list rfl (wants0 rfl) rfl rfl ?_
   refine T.leave .list (wantsNot rfl rfl rfl rfl) rfl ?_
   refine T.leave .list (wantsNot rfl rfl rfl rfl) rfl ?_
   refine T.pickF .list rfl (wants0 rfl) rfl rfl rfl rfl ?_
   refine T.move .list rfl (wants0 rfl) rfl rfl ?_
   refine T.leave .list (wantsNot rfl rfl rfl rfl) rfl ?_
   refine T.leave .list (wantsNot rfl rfl rfl rfl) rfl ?_
   refine T.pickF .list rfl (wants0 rfl) rfl rfl rfl rfl ?_
   refine T.move .list rfl (wants0 rfl) rfl rfl ?_
   refine T.leave .list (wantsNot rfl rfl rfl rfl) rfl ?_
   refine T.leave .list (wantsNot rfl rfl rfl rfl) rfl ?_
   refine T.pickF .list rfl (wants0 rfl) rfl rfl rfl rfl ?_
   refine T.assign .list rfl (wants0 rfl) rfl rfl ?_
   refine T.nil ?_
   refine T.then_normal ?_
   refine T.ret ?_
   obtain rfl := inv_some hr
   refine T.pick [] 11 rfl rfl (Nat.le_add_left _ _) rfl ?_
   refine T.ret1 rfl rfl (fun w hS => ⟨(), rfl, hS⟩)
  ·replace hr := inv_negB hb1 hr
   refine T.move .list rfl (wants1 rfl rfl rfl (not_f hb1)) rfl rfl ?_
   refine T.bin .list rfl (wants1 rfl rfl rfl (not_f hb1)) rfl rfl rfl rfl ?_
   refine T.pickT .list rfl (wants0 rfl) rfl rfl (not_f hb1) rfl ?_
   refine T.move .list rfl (wants0 rfl) rfl rfl ?_
   refine T.bool (b := (decide (r2.2.2 = 0))) (fun hb2 => ?_) (fun hb2 => ?_)
   ·replace hr := inv_posB hb2 hr
    refine T.move .list rfl (wants1 rfl rfl rfl hb2) rfl rfl ?_
    refine T.bin .list rfl (wants1 rfl rfl rfl hb2) rfl rfl rfl rfl ?_
    refine T.pickT .list rfl (wants0 rfl) rfl rfl hb2 rfl ?_
    refine T.move .list rfl (wants0 rfl) rfl rfl ?_
    refine T.bool (b := (decide (r5.1 = 5))) (fun hb3 => ?_) (fun hb3 => ?_)
    ·replace hr := inv_posB hb3 hr
     refine T.move .list rfl (wants1 rfl rfl rfl hb3) rfl rfl ?_
     refine T.pickT .list rfl (wants0 rfl) rfl rfl hb3 rfl ?_
     refine T.move .list rfl (wants0 rfl) rfl rfl ?_
     refine T.bool (b := r5.2.1) (fun hb4 => ?_) (fun hb4 => ?_)
     ·replace hr := inv_posB hb4 hr
      refine T.move .list rfl (wants1 rfl rfl rfl hb4) rfl rfl ?_
      refine T.bin .list rfl (wants1 rfl rfl rfl hb4) rfl rfl rfl rfl ?_
      refine T.pickT .list rfl (wants0 rfl) rfl rfl hb4 rfl ?_
      refine T.move .list rfl (wants0 rfl) rfl rfl ?_
      refine T.bool (b := (decide (r5.2.2 = 0))) (fun hb5 => ?_) (fun hb5 => ?_)
      ·replace hr := inv_posB hb5 hr
       refine T.move .list rfl (wants1 rfl rfl rfl hb5) rfl rfl ?_
       refine T.bin .list rfl (wants1 rfl rfl rfl hb5) rfl rfl rfl rfl ?_
       refine T.pickT .list rfl (wants0 rfl) rfl rfl hb5 rfl ?_
       refine T.move .list rfl (wants0 rfl) rfl rfl ?_
       refine T.bool (b := (decide (r7.1 = 4))) (fun hb6 => ?_) (fun hb6 => ?_)
       ·replace hr := inv_posB hb6 hr
        refine T.move .list rfl (wants1 rfl rfl rfl hb6) rfl rfl ?_
        refine T.pickT .list rfl (wants0 rfl) rfl rfl hb6 rfl ?_
        refine T.move .list rfl (wants0 rfl) rfl rfl ?_
        refine T.bool (b := r7.2.1) (fun hb7 => ?_) (fun hb7 => ?_)
        ·replace hr := inv_posB hb7 hr
         refine T.move .list rfl (wants1 rfl rfl rfl hb7) rfl rfl ?_
         refine T.bin .list rfl (wants1 rfl rfl rfl hb7) rfl rfl rfl rfl ?_
         refine T.pickT .list rfl (wants0 rfl) rfl rfl hb7 rfl ?_
         refine T.move .list rfl (wants0 rfl) rfl rfl ?_
         refine T.bool (b := (decide (r7.2.2 = 0))) (fun hb8 => ?_) (fun hb8 => ?_)
         ·replace hr := inv_posB hb8 hr
          refine T.move .list rfl (wants1 rfl rfl rfl hb8) rfl rfl ?_
          refine T.bin .list rfl (wants1 rfl rfl rfl hb8) rfl rfl rfl rfl ?_
          refine T.pickT .list rfl (wants0 rfl) rfl rfl hb8 rfl ?_
          refine T.move .list rfl (wants0 rfl) rfl rfl ?_
          refine T.bool (b := (decide (r8.1 = 1))) (fun hb9 => ?_) (fun hb9 => ?_)
          ·replace hr := inv_posB hb9 hr
           refine T.move .list rfl (wants1 rfl rfl rfl hb9) rfl rfl ?_
           refine T.bin .list rfl (wants1 rfl rfl rfl hb9) rfl rfl rfl rfl ?_
           refine T.pickT .list rfl (wants0 rfl) rfl rfl hb9 rfl ?_
           refine T.move .list rfl (wants0 rfl) rfl rfl ?_
           refine T.bool (b := (decide (r8.2 = 0))) (fun hb10 => ?_) (fun hb10 => ?_)
           ·replace hr := inv_posB hb10 hr
            refine T.move .list rfl (wants1 rfl rfl rfl hb10) rfl rfl ?_
            refine T.pickT .list rfl (wants0 rfl) rfl rfl hb10 rfl ?_
            refine T.move .list rfl (wants0 rfl) rfl rfl ?_
            refine T.bool (b := r9.1) (fun hb11 => ?_) (fun hb11 => ?_)
            ·replace hr := inv_posB hb11 hr
             refine T.move .list rfl (wants1 rfl rfl rfl hb11) rfl rfl ?_
             refine T.bin .list rfl (wants1 rfl rfl rfl hb11) rfl rfl rfl rfl ?_
             refine T.pickT .list rfl (wants0 rfl) rfl rfl hb11 rfl ?_
             refine T.move .list rfl (wants0 rfl) rfl rfl ?_
             refine T.bool (b := (decide (r9.2.1 = 0))) (fun hb12 => ?_) (fun hb12 => ?_)
             ·replace hr := inv_posB hb12 hr
              refine T.move .list rfl (wants1 rfl rfl rfl hb12) rfl rfl ?_
              refine T.bin .list rfl (wants1 rfl rfl rfl hb12) rfl rfl rfl rfl ?_
              refine T.pickT .list rfl (wants0 rfl) rfl rfl hb12 rfl ?_
              refine T.move .list rfl (wants0 rfl) rfl rfl ?_
              refine T.bool (b := (decide (r10.1 = 2))) (fun hb13 => ?_) (fun hb13 => ?_)
              ·replace hr := inv_posB hb13 hr
               refine T.move .list rfl (wants1 rfl rfl rfl hb13) rfl rfl ?_
               refine T.bin .list rfl (wants1 rfl rfl rfl hb13) rfl rfl rfl rfl ?_
               refine T.pickT .list rfl (wants0 rfl) rfl rfl hb13 rfl ?_
               refine T.move .list rfl (wants0 rfl) rfl rfl ?_
               refine T.bool (b := (decide (r10.2 = 0))) (fun hb14 => ?_) (fun hb14 => ?_)
               ·replace hr := inv_posB hb14 hr
                refine T.move .list rfl (wants1 rfl rfl rfl hb14) rfl rfl ?_
                refine T.bin .list rfl (wants1 rfl rfl rfl hb14) rfl rfl rfl rfl ?_
                refine T.pickT .list rfl (wants0 rfl) rfl rfl hb14 rfl ?_
                refine T.assign .list rfl (wants0 rfl) rfl rfl ?_
                refine T.nil ?_
                refine T.then_normal ?_
                refine T.ret ?_
                obtain rfl := inv_some hr
                refine T.pick [] 11 rfl rfl (Nat.le_add_left _ _) rfl ?_
                refine T.ret1 rfl rfl (fun w hS => ⟨(), rfl, hS⟩)
               ·replace hr := inv_negB hb14 hr
                refine T.leave .list (wantsNot rfl rfl rfl hb14) rfl ?_
                refine T.leave .list (wantsNot rfl rfl rfl hb14) rfl ?_
                refine T.pickF .list rfl (wants0 rfl) rfl rfl hb14 rfl ?_
                refine T.assign .list rfl (wants0 rfl) rfl rfl ?_
                refine T.nil ?_
                refine T.then_normal ?_
                refine T.ret ?_
                obtain rfl := inv_some hr
                refine T.pick [] 11 rfl rfl (Nat.le_add_left _ _) rfl ?_
                refine T.ret1 rfl rfl (fun w hS => ⟨(), rfl, hS⟩)
              ·replace hr := inv_negB hb13 hr
               refine T.leave .list (wantsNot rfl rfl rfl hb13) rfl ?_
               refine T.leave .list (wantsNot rfl rfl rfl hb13) rfl ?_
               refine T.pickF .list rfl (wants0 rfl) rfl rfl hb13 rfl ?_
               refine T.move .list rfl (wants0 rfl) rfl rfl ?_
               refine T.leave .list (wantsNot rfl rfl rfl rfl) rfl ?_
               refine T.leave .list (wantsNot rfl rfl rfl rfl) rfl ?_
               refine T.pickF .list rfl (wants0 rfl) rfl rfl rfl rfl ?_
               refine T.assign .list rfl (wants0 rfl) rfl rfl ?_
               refine T.nil ?_
               refine T.then_normal ?_
               refine T.ret ?_
               obtain rfl := inv_some hr
               refine T.pick [] 11 rfl rfl (Nat.le_add_left _ _) rfl ?_
               refine T.ret1 rfl rfl (fun w hS => ⟨(), rfl, hS⟩)
             ·replace hr := inv_negB hb12 hr
              refine T.leave .list (wantsNot rfl rfl rfl hb12) rfl ?_
              refine T.leave .list (wantsNot rfl rfl rfl hb12) rfl ?_
              refine T.pickF .list rfl (wants0 rfl) rfl rfl hb12 rfl ?_
              refine T.move .list rfl (wants0 rfl) rfl rfl ?_
              refine T.leave .list (wantsNot rfl rfl rfl rfl) rfl ?_
              refine T.leave .list (wantsNot rfl rfl rfl rfl) rfl ?_
              refine T.pickF .list rfl (wants0 rfl) rfl rfl rfl rfl ?_
              refine T.move .list rfl (wants0 rfl) rfl rfl ?_
              refine T.leave .list (wantsNot rfl rfl rfl rfl) rfl ?_
              refine T.leave .list (wantsNot rfl rfl rfl rfl) rfl ?_
              refine T.pickF .list rfl (wants0 rfl) rfl rfl rfl rfl ?_
              refine T.assign .list rfl (wants0 rfl) rfl rfl ?_
              refine T.nil ?_
              refine T.then_normal ?_
              refine T.ret ?_
              obtain rfl := inv_some hr
              refine T.pick [] 11 rfl rfl (Nat.le_add_left _ _) rfl ?_
              refine T.ret1 rfl rfl (fun w hS => ⟨(), rfl, hS⟩)
            ·replace hr := inv_negB hb11 hr
             refine T.leave .list (wantsNot rfl rfl rfl hb11) rfl ?_
             refine T.leave .list (wantsNot rfl rfl rfl hb11) rfl ?_
             refine T.pickF .list rfl (wants0 rfl) rfl rfl hb11 rfl ?_
             refine T.move .list rfl (wants0 rfl) rfl rfl ?_
             refine T.leave .list (wantsNot rfl rfl rfl rfl) rfl ?_
             refine T.leave .list (wantsNot rfl rfl rfl rfl) rfl ?_
             refine T.pickF .list rfl (wants0 rfl) rfl rfl rfl rfl ?_
             refine T.move .list rfl (wants0 rfl) rfl rfl ?_
             refine T.leave .list (wantsNot rfl rfl rfl rfl) rfl ?_
             refine T.leave .list (wantsNot rfl rfl rfl rfl) rfl ?_
             refine T.pickF .list rfl (wants0 rfl) rfl rfl rfl rfl ?_
             refine T.move .list rfl (wants0 rfl) rfl rfl ?_
             refine T.leave .list (wantsNot rfl rfl rfl rfl) rfl ?_
             refine T.leave .list (wantsNot rfl rfl rfl rfl) rfl ?_
             refine T.pickF .list rfl (wants0 rfl) rfl rfl rfl rfl ?_
             refine T.assign .list rfl (wants0 rfl) rfl rfl ?_
             refine T.nil ?_
             refine T.then_normal ?_
             refine T.ret ?_
             obtain rfl := inv_some hr
             refine T.pick [] 11 rfl rfl (Nat.le_add_left _ _) rfl ?_
             refine T.ret1 rfl rfl (fun w hS => ⟨(), rfl, hS⟩)
           ·replace hr := inv_negB hb10 hr
            refine T.leave .list (wantsNot rfl rfl rfl hb10) rfl ?_
            refine T.pickF .list rfl (wants0 rfl) rfl rfl hb10 rfl ?_
            refine T.move .list rfl (wants0 rfl) rfl rfl ?_
            refine T.leave .list (wantsNot rfl rfl rfl rfl) rfl ?_
            refine T.leave .list (wantsNot rfl rfl rfl rfl) rfl ?_
            refine T.pickF .list rfl (wants0 rfl) rfl rfl rfl rfl ?_
            refine T.move .list rfl (wants0 rfl) rfl rfl ?_
            refine T.leave .list (wantsNot rfl rfl rfl rfl) rfl ?_
            refine T.leave .list (wantsNot rfl rfl rfl rfl) rfl ?_
            refine T.pickF .list rfl (wants0 rfl) rfl rfl rfl rfl ?_
            refine T.move .list rfl (wants0 rfl) rfl rfl ?_
            refine T.leave .list (wantsNot rfl rfl rfl rfl) rfl ?_
            refine T.leave .list (wantsNot rfl rfl rfl rfl) rfl ?_
            refine T.pickF .list rfl (wants0 rfl) rfl rfl rfl rfl ?_
            refine T.move .list rfl (wants0 rfl) rfl rfl ?_
            refine T.leave .list (wantsNot rfl rfl rfl rfl) rfl ?_
            refine T.leave .list (wantsNot rfl rfl rfl rfl) rfl ?_
            refine T.pickF .list rfl (wants0 rfl) rfl rfl rfl rfl ?_
            refine T.assign .list rfl (wants0 rfl) rfl rfl ?_
            refine T.nil ?_
            refine T.then_normal ?_
            refine T.ret ?_
            obtain rfl := inv_some hr
            refine T.pick [] 11 rfl rfl (Nat.le_add_left _ _) rfl ?_
            refine T.ret1 rfl rfl (fun w hS => ⟨(), rfl, hS⟩)
          ·replace hr := inv_negB hb9 hr
           refine T.leave .list (wantsNot rfl rfl rfl hb9) rfl ?_
           refine T.leave .list (wantsNot rfl rfl rfl hb9) rfl ?_
           refine T.pickF .list rfl (wants0 rfl) rfl rfl hb9 rfl ?_
           refine T.move .list rfl (wants0 rfl) rfl rfl ?_
           refine T.leave .list (wantsNot rfl rfl rfl rfl) rfl ?_
           refine T.pickF .list rfl (wants0 rfl) rfl rfl rfl rfl ?_
           refine T.move .list rfl (wants0 rfl) rfl rfl ?_
           refine T.leave .list (wantsNot rfl rfl rfl rfl) rfl ?_
           refine T.leave .list (wantsNot rfl rfl rfl rfl) rfl ?_
           refine T.pickF .list rfl (wants0 rfl) rfl rfl rfl rfl ?_
           refine T.move .list rfl (wants0 rfl) rfl rfl ?_
           refine T.leave .list (wantsNot rfl rfl rfl rfl) rfl ?_
           refine T.leave .list (wantsNot rfl rfl rfl rfl) rfl ?_
           refine T.pickF .list rfl (wants0 rfl) rfl rfl rfl rfl ?_
           refine T.move .list rfl (wants0 rfl) rfl rfl ?_
           refine T.leave .list (wantsNot rfl rfl rfl rfl) rfl ?_
           refine T.leave .list (wantsNot rfl rfl rfl rfl) rfl ?_
           refine T.pickF .list rfl (wants0 rfl) rfl rfl rfl rfl ?_
           refine T.move .list rfl (wants0 rfl) rfl rfl ?_
           refine T.leave .list (wantsNot rfl rfl rfl rfl) rfl ?_
           refine T.leave .list (wantsNot rfl rfl rfl rfl) rfl ?_
           refine T.pickF .list rfl (wants0 rfl) rfl rfl rfl rfl ?_
           refine T.assign .list rfl (wants0 rfl) rfl rfl ?_
           refine T.nil ?_
           refine T.then_normal ?_
           refine T.ret ?_
           obtain rfl := inv_some hr
           refine T.pick [] 11 rfl rfl (Nat.le_add_left _ _) rfl ?_
           refine T.ret1 rfl rfl (fun w hS => ⟨(), rfl, hS⟩)
         ·replace hr := inv_negB hb8 hr
          refine T.leave .list (wantsNot rfl rfl rfl hb8) rfl ?_
          refine T.leave .list (wantsNot rfl rfl rfl hb8) rfl ?_
          refine T.pickF .list rfl (wants0 rfl) rfl rfl hb8 rfl ?_
          refine T.move .list rfl (wants0 rfl) rfl rfl ?_
          refine T.leave .list (wantsNot rfl rfl rfl rfl) rfl ?_
          refine T.leave .list (wantsNot rfl rfl rfl rfl) rfl ?_
          refine T.pickF .list rfl (wants0 rfl) rfl rfl rfl rfl ?_
          refine T.move .list rfl (wants0 rfl) rfl rfl ?_
          refine T.leave .list (wantsNot rfl rfl rfl rfl) rfl ?_
          refine T.pickF .list rfl (wants0 rfl) rfl rfl rfl rfl ?_
          refine T.move .list rfl (wants0 rfl) rfl rfl ?_
          refine T.leave .list (wantsNot rfl rfl rfl rfl) rfl ?_
          refine T.leave .list (wantsNot rfl rfl rfl rfl) rfl ?_
          refine T.pickF .list rfl (wants0 rfl) rfl rfl rfl rfl ?_
          refine T.move .list rfl (wants0 rfl) rfl rfl ?_
          refine T.leave .list (wantsNot rfl rfl rfl rfl) rfl ?_
          refine T.leave .list (wantsNot rfl rfl rfl rfl) rfl ?_
          refine T.pickF .list rfl (wants0 rfl) rfl rfl rfl rfl ?_
          refine T.move .list rfl (wants0 rfl) rfl rfl ?_
          refine T.leave .list (wantsNot rfl rfl rfl rfl) rfl ?_
          refine T.leave .list (wantsNot rfl rfl rfl rfl) rfl ?_
          refine T.pickF .list rfl (wants0 rfl) rfl rfl rfl rfl ?_
          refine T.move .list rfl (wants0 rfl) rfl rfl ?_
          refine T.leave .list (wantsNot rfl rfl rfl rfl) rfl ?_
          refine T.leave .list (wantsNot rfl rfl rfl rfl) rfl ?_
          refine T.pickF .list rfl (wants0 rfl) rfl rfl rfl rfl ?_
          refine T.assign .list rfl (wants0 rfl) rfl rfl ?_
          refine T.nil ?_
          refine T.then_normal ?_
          refine T.ret ?_
          obtain rfl := inv_some hr
          refine T.pick [] 11 rfl rfl (Nat.le_add_left _ _) rfl ?_
          refine T.ret1 rfl rfl (fun w hS => ⟨(), rfl, hS⟩)
        ·replace hr := inv_negB hb7 hr
         refine T.leave .list (wantsNot rfl rfl rfl hb7) rfl ?_
         refine T.leave .list (wantsNot rfl rfl rfl hb7) rfl ?_
         refine T.pickF .list rfl (wants0 rfl) rfl rfl hb7 rfl ?_
         refine T.move .list rfl (wants0 rfl) rfl rfl ?_
         refine T.leave .list (wantsNot rfl rfl rfl rfl) rfl ?_
         refine T.leave .list (wantsNot rfl rfl rfl rfl) rfl ?_
         refine T.pickF .list rfl (wants0 rfl) rfl rfl rfl rfl ?_
         refine T.move .list rfl (wants0 rfl) rfl rfl ?_
         refine T.leave .list (wantsNot rfl rfl rfl rfl) rfl ?_
         refine T.leave .list (wantsNot rfl rfl rfl rfl) rfl ?_
         refine T.pickF .list rfl (wants0 rfl) rfl rfl rfl rfl ?_
         refine T.move .list rfl (wants0 rfl) rfl rfl ?_
         refine T.leave .list (wantsNot rfl rfl rfl rfl) rfl ?_
         refine T.pickF .list rfl (wants0 rfl) rfl rfl rfl rfl ?_
         refine T.move .list rfl (wants0 rfl) rfl rfl ?_
         refine T.leave .list (wantsNot rfl rfl rfl rfl) rfl ?_
         refine T.leave .list (wantsNot rfl rfl rfl rfl) rfl ?_
         refine T.pickF .list rfl (wants0 rfl) rfl rfl rfl rfl ?_
         refine T.move .list rfl (wants0 rfl) rfl rfl ?_
         refine T.leave .list (wantsNot rfl rfl rfl rfl) rfl ?_
         refine T.leave .list (wantsNot rfl rfl rfl rfl) rfl ?_
         refine T.pickF .list rfl (wants0 rfl) rfl rfl rfl rfl ?_
         refine T.move .list rfl (wants0 rfl) rfl rfl ?_
         refine T.leave .list (wantsNot rfl rfl rfl rfl) rfl ?_
         refine T.leave .list (wantsNot rfl rfl rfl rfl) rfl ?_
         refine T.pickF .list rfl (wants0 rfl) rfl rfl rfl rfl ?_
         refine T.move .list rfl (wants0 rfl) rfl rfl ?_
         refine T.leave .list (wantsNot rfl rfl rfl rfl) rfl ?_
         refine T.leave .list (wantsNot rfl rfl rfl rfl) rfl ?_
         refine T.pickF .list rfl (wants0 rfl) rfl rfl rfl rfl ?_
         refine T.assign .list rfl (wants0 rfl) rfl rfl ?_
         refine T.nil ?_
         refine T.then_normal ?_
         refine T.ret ?_
         obtain rfl := inv_some hr
         refine T.pick [] 11 rfl rfl (Nat.le_add_left _ _) rfl ?_
         refine T.ret1 rfl rfl (fun w hS => ⟨(), rfl, hS⟩)
       ·replace hr := inv_negB hb6 hr
        refine T.leave .list (wantsNot rfl rfl rfl hb6) rfl ?_
        refine T.pickF .list rfl (wants0 rfl) rfl rfl hb6 rfl ?_
        refine T.move .list rfl (wants0 rfl) rfl rfl ?_
        refine T.leave .list (wantsNot rfl rfl rfl rfl) rfl ?_
        refine T.leave .list (wantsNot rfl rfl rfl rfl) rfl ?_
        refine T.pickF .list rfl (wants0 rfl) rfl rfl rfl rfl ?_
        refine T.move .list rfl (wants0 rfl) rfl rfl ?_
        refine T.leave .list (wantsNot rfl rfl rfl rfl) rfl ?_
        refine T.leave .list (wantsNot rfl rfl rfl rfl) rfl ?_
        refine T.pickF .list rfl (wants0 rfl) rfl rfl rfl rfl ?_
        refine T.move .list rfl (wants0 rfl) rfl rfl ?_
        refine T.leave .list (wantsNot rfl rfl rfl rfl) rfl ?_
        refine T.leave .list (wantsNot rfl rfl rfl rfl) rfl ?_
        refine T.pickF .list rfl (wants0 rfl) rfl rfl rfl rfl ?_
        refine T.move .list rfl (wants0 rfl) rfl rfl ?_
        refine T.leave .list (wantsNot rfl rfl rfl rfl) rfl ?_
        refine T.pickF .list rfl (wants0 rfl) rfl rfl rfl rfl ?_
        refine T.move .list rfl (wants0 rfl) rfl rfl ?_
        refine T.leave .list (wantsNot rfl rfl rfl rfl) rfl ?_
        refine T.leave .list (wantsNot rfl rfl rfl rfl) rfl ?_
        refine T.pickF .list rfl (wants0 rfl) rfl rfl rfl rfl ?_
        refine T.move .list rfl (wants0 rfl) rfl rfl ?_
        refine T.leave .list (wantsNot rfl rfl rfl rfl) rfl ?_
        refine T.leave .list (wantsNot rfl rfl rfl rfl) rfl ?_
        refine T.pickF .list rfl (wants0 rfl) rfl rfl rfl rfl ?_
        refine T.move .list rfl (wants0 rfl) rfl rfl ?_
        refine T.leave .list (wantsNot rfl rfl rfl rfl) rfl ?_
        refine T.leave .list (wantsNot rfl rfl rfl rfl) rfl ?_
        refine T.pickF .list rfl (wants0 rfl) rfl rfl rfl rfl ?_
        refine T.move .list rfl (wants0 rfl) rfl rfl ?_
        refine T.leave .list (wantsNot rfl rfl rfl rfl) rfl ?_
        refine T.leave .list (wantsNot rfl rfl rfl rfl) rfl ?_
        refine T.pickF .list rfl (wants0 rfl) rfl rfl rfl rfl ?_
        refine T.assign .list rfl (wants0 rfl) rfl rfl ?_
        refine T.nil ?_
        refine T.then_normal ?_
        refine T.ret ?_
        obtain rfl := inv_some hr
        refine T.pick [] 11 rfl rfl (Nat.le_add_left _ _) rfl ?_
        refine T.ret1 rfl rfl (fun w hS => ⟨(), rfl, hS⟩)
      ·replace hr := inv_negB hb5 hr
       refine T.leave .list (wantsNot rfl rfl rfl hb5) rfl ?_
       refine T.leave .list (wantsNot rfl rfl rfl hb5) rfl ?_
       refine T.pickF .list rfl (wants0 rfl) rfl rfl hb5 rfl ?_
       refine T.move .list rfl (wants0 rfl) rfl rfl ?_
       refine T.leave .list (wantsNot rfl rfl rfl rfl) rfl ?_
       refine T.pickF .list rfl (wants0 rfl) rfl rfl rfl rfl ?_
       refine T.move .list rfl (wants0 rfl) rfl rfl ?_
       refine T.leave .list (wantsNot rfl rfl rfl rfl) rfl ?_
       refine T.leave .list (wantsNot rfl rfl rfl rfl) rfl ?_
       refine T.pickF .list rfl (wants0 rfl) rfl rfl rfl rfl ?_
       refine T.move .list rfl (wants0 rfl) rfl rfl ?_
       refine T.leave .list (wantsNot rfl rfl rfl rfl) rfl ?_
       refine T.leave .list (wantsNot rfl rfl rfl rfl) rfl ?_
       refine T.pickF .list rfl (wants0 rfl) rfl rfl rfl rfl ?_
       refine T.move .list rfl (wants0 rfl) rfl rfl ?_
       refine T.leave .list (wantsNot rfl rfl rfl rfl) rfl ?_
       refine T.leave .list (wantsNot rfl rfl rfl rfl) rfl ?_
       refine T.pickF .list rfl (wants0 rfl) rfl rfl rfl rfl ?_
       refine T.move .list rfl (wants0 rfl) rfl rfl ?_
       refine T.leave .list (wantsNot rfl rfl rfl rfl) rfl ?_
       refine T.pickF .list rfl (wants0 rfl) rfl rfl rfl rfl ?_
       refine T.move .list rfl (wants0 rfl) rfl rfl ?_
       refine T.leave .list (wantsNot rfl rfl rfl rfl) rfl ?_
       refine T.leave .list (wantsNot rfl rfl rfl rfl) rfl ?_
       refine T.pickF .list rfl (wants0 rfl) rfl rfl rfl rfl ?_
       refine T.move .list rfl (wants0 rfl) rfl rfl ?_
       refine T.leave .list (wantsNot rfl rfl rfl rfl) rfl ?_
       refine T.leave .list (wantsNot rfl rfl rfl rfl) rfl ?_
       refine T.pickF .list rfl (wants0 rfl) rfl rfl rfl rfl ?_
       refine T.move .list rfl (wants0 rfl) rfl rfl ?_
       refine T.leave .list (wantsNot rfl rfl rfl rfl) rfl ?_
       refine T.leave .list (wantsNot rfl rfl rfl rfl) rfl ?_
       refine T.pickF .list rfl (wants0 rfl) rfl rfl rfl rfl ?_
       refine T.move .list rfl (wants0 rfl) rfl rfl ?_
       refine T.leave .list (wantsNot rfl rfl rfl rfl) rfl ?_
       refine T.leave .list (wantsNot rfl rfl rfl rfl) rfl ?_
       refine T.pickF .list rfl (wants0 rfl) rfl rfl rfl rfl ?_
       refine T.assign .list rfl (wants0 rfl) rfl rfl ?_
       refine T.nil ?_
       refine T.then_normal ?_
       refine T.ret ?_
       obtain rfl := inv_some hr
       refine T.pick [] 11 rfl rfl (Nat.le_add_left _ _) rfl ?_
       refine T.ret1 rfl rfl (fun w hS => ⟨(), rfl, hS⟩)
     ·replace hr := inv_negB hb4 hr
      refine T.leave .list (wantsNot rfl rfl rfl hb4) rfl ?_
      refine T.leave .list (wantsNot rfl rfl rfl hb4) rfl ?_
      refine T.pickF .list rfl (wants0 rfl) rfl rfl hb4 rfl ?_
      refine T.move .list rfl (wants0 rfl) rfl rfl ?_
      refine T.leave .list (wantsNot rfl rfl rfl rfl) rfl ?_
      refine T.leave .list (wantsNot rfl rfl rfl rfl) rfl ?_
      refine T.pickF .list rfl (wants0 rfl) rfl rfl rfl rfl ?_
      refine T.move .list rfl (wants0 rfl) rfl rfl ?_
      refine T.leave .list (wantsNot rfl rfl rfl rfl) rfl ?_
      refine T.pickF .list rfl (wants0 rfl) rfl rfl rfl rfl ?_
      refine T.move .list rfl (wants0 rfl) rfl rfl ?_
      refine T.leave .list (wantsNot rfl rfl rfl rfl) rfl ?_
      refine T.leave .list (wantsNot rfl rfl rfl rfl) rfl ?_
      refine T.pickF .list rfl (wants0 rfl) rfl rfl rfl rfl ?_
      refine T.move .list rfl (wants0 rfl) rfl rfl ?_
      refine T.leave .list (wantsNot rfl rfl rfl rfl) rfl ?_
      refine T.leave .list (wantsNot rfl rfl rfl rfl) rfl ?_
      refine T.pickF .list rfl (wants0 rfl) rfl rfl rfl rfl ?_
      refine T.move .list rfl (wants0 rfl) rfl rfl ?_
      refine T.leave .list (wantsNot rfl rfl rfl rfl) rfl ?_
      refine T.leave .list (wantsNot rfl rfl rfl rfl) rfl ?_
      refine T.pickF .list rfl (wants0 rfl) rfl rfl rfl rfl ?_
      refine T.move .list rfl (wants0 rfl) rfl rfl ?_
      refine T.leave .list (wantsNot rfl rfl rfl rfl) rfl ?_
      refine T.pickF .list rfl (wants0 rfl) rfl rfl rfl rfl ?_
      refine T.move .list rfl (wants0 rfl) rfl rfl ?_
      refine T.leave .list (wantsNot rfl rfl rfl rfl) rfl ?_
      refine T.leave .list (wantsNot rfl rfl rfl rfl) rfl ?_
      refine T.pickF .list rfl (wants0 rfl) rfl rfl rfl rfl ?_
      refine T.move .list rfl (wants0 rfl) rfl rfl ?_
      refine T.leave .list (wantsNot rfl rfl rfl rfl) rfl ?_
      refine T.leave .list (wantsNot rfl rfl rfl rfl) rfl ?_
      refine T.pickF .list rfl (wants0 rfl) rfl rfl rfl rfl ?_
      refine T.move .list rfl (wants0 rfl) rfl rfl ?_
      refine T.leave .list (wantsNot rfl rfl rfl rfl) rfl ?_
      refine T.leave .list (wantsNot rfl rfl rfl rfl) rfl ?_
      refine T.pickF .list rfl (wants0 rfl) rfl rfl rfl rfl ?_
      refine T.move .list rfl (wants0 rfl) rfl rfl ?_
      refine T.leave .list (wantsNot rfl rfl rfl rfl) rfl ?_
      refine T.leave .list (wantsNot rfl rfl rfl rfl) rfl ?_
      refine T.pickF .list rfl (wants0 rfl) rfl rfl rfl rfl ?_
      refine T.assign .list rfl (wants0 rfl) rfl rfl ?_
      refine T.nil ?_
      refine T.then_normal ?_
      refine T.ret ?_
      obtain rfl := inv_some hr
      refine T.pick [] 11 rfl rfl (Nat.le_add_left _ _) rfl ?_
      refine T.ret1 rfl rfl (fun w hS => ⟨(), rfl, hS⟩)
    ·replace hr := inv_negB hb3 hr
     refine T.leave .list (wantsNot rfl rfl rfl hb3) rfl ?_
     refine T.pickF .list rfl (wants0 rfl) rfl rfl hb3 rfl ?_
     refine T.move .list rfl (wants0 rfl) rfl rfl ?_
     refine T.leave .list (wantsNot rfl rfl rfl rfl) rfl ?_
     refine T.leave .list (wantsNot rfl rfl rfl rfl) rfl ?_
     refine T.pickF .list rfl (wants0 rfl) rfl rfl rfl rfl ?_
     refine T.move .list rfl (wants0 rfl) rfl rfl ?_
     refine T.leave .list (wantsNot rfl rfl rfl rfl) rfl ?_
     refine T.leave .list (wantsNot rfl rfl rfl rfl) rfl ?_
     refine T.pickF .list rfl (wants0 rfl) rfl rfl rfl rfl ?_
     refine T.move .list rfl (wants0 rfl) rfl rfl ?_
     refine T.leave .list (wantsNot rfl rfl rfl rfl) rfl ?_
     refine T.pickF .list rfl (wants0 rfl) rfl rfl rfl rfl ?_
     refine T.move .list rfl (wants0 rfl) rfl rfl ?_
     refine T.leave .list (wantsNot rfl rfl rfl rfl) rfl ?_
     refine T.leave .list (wantsNot rfl rfl rfl rfl) rfl ?_
     refine T.pickF .list rfl (wants0 rfl) rfl rfl rfl rfl ?_
     refine T.move .list rfl (wants0 rfl) rfl rfl ?_
     refine T.leave .list (wantsNot rfl rfl rfl rfl) rfl ?_
     refine T.leave .list (wantsNot rfl rfl rfl rfl) rfl ?_
     refine T.pickF .list rfl (wants0 rfl) rfl rfl rfl rfl ?_
     refine T.move .list rfl (wants0 rfl) rfl rfl ?_
     refine T.leave .list (wantsNot rfl rfl rfl rfl) rfl ?_
     refine T.leave .list (wantsNot rfl rfl rfl rfl) rfl ?_
     refine T.pickF .list rfl (wants0 rfl) rfl rfl rfl rfl ?_
     refine T.move .list rfl (wants0 rfl) rfl rfl ?_
     refine T.leave .list (wantsNot rfl rfl rfl rfl) rfl ?_
     refine T.pickF .list rfl (wants0 rfl) rfl rfl rfl rfl ?_
     refine T.move .list rfl (wants0 rfl) rfl rfl ?_
     refine T.leave .list (wantsNot rfl rfl rfl rfl) rfl ?_
     refine T.leave .list (wantsNot rfl rfl rfl rfl) rfl ?_
     refine T.pickF .list rfl (wants0 rfl) rfl rfl rfl rfl ?_
     refine T.move .list rfl (wants0 rfl) rfl rfl ?_
     refine T.leave .list (wantsNot rfl rfl rfl rfl) rfl ?_
     refine T.leave .list (wantsNot rfl rfl rfl rfl) rfl ?_
     refine T.pickF .list rfl (wants0 rfl) rfl rfl rfl rfl ?_
     refine T.move .list rfl (wants0 rfl) rfl rfl ?_
     refine T.leave .list (wantsNot rfl rfl rfl rfl) rfl ?_
     refine T.leave .list (wantsNot rfl rfl rfl rfl) rfl ?_
     refine T.pickF .list rfl (wants0 rfl) rfl rfl rfl rfl ?_
     refine T.move .list rfl (wants0 rfl) rfl rfl ?_
     refine T.leave .list (wantsNot rfl rfl rfl rfl) rfl ?_
     refine T.leave .list (wantsNot rfl rfl rfl rfl) rfl ?_
     refine T.pickF .list rfl (wants0 rfl) rfl rfl rfl rfl ?_
     refine T.assign .list rfl (wants0 rfl) rfl rfl ?_
     refine T.nil ?_
     refine T.then_normal ?_
     refine T.ret ?_
     obtain rfl := inv_some hr
     refine T.pick [] 11 rfl rfl (Nat.le_add_left _ _) rfl ?_
     refine T.ret1 rfl rfl (fun w hS => ⟨(), rfl, hS⟩)
   ·replace hr := inv_negB hb2 hr
    refine T.leave .list (wantsNot rfl rfl rfl hb2) rfl ?_
    refine T.leave .list (wantsNot rfl rfl rfl hb2) rfl ?_
    refine T.pickF .list rfl (wants0 rfl) rfl rfl hb2 rfl ?_
    refine T.move .list rfl (wants0 rfl) rfl rfl ?_
    refine T.leave .list (wantsNot rfl rfl rfl rfl) rfl ?_
    refine T.pickF .list rfl (wants0 rfl) rfl rfl rfl rfl ?_
    refine T.move .list rfl (wants0 rfl) rfl rfl ?_
    refine T.leave .list (wantsNot rfl rfl rfl rfl) rfl ?_
    refine T.leave .list (wantsNot rfl rfl rfl rfl) rfl ?_
    refine T.pickF .list rfl (wants0 rfl) rfl rfl rfl rfl ?_
    refine T.move .list rfl (wants0 rfl) rfl rfl ?_
    refine T.leave .list (wantsNot rfl rfl rfl rfl) rfl ?_
    refine T.leave .list (wantsNot rfl rfl rfl rfl) rfl ?_
    refine T.pickF .list rfl (wants0 rfl) rfl rfl rfl rfl ?_
    refine T.move .list rfl (wants0 rfl) rfl rfl ?_
    refine T.leave .list (wantsNot rfl rfl rfl rfl) rfl ?_
    refine T.pickF .list rfl (wants0 rfl) rfl rfl rfl rfl ?_
    refine T.move .list rfl (wants0 rfl) rfl rfl ?_
    refine T.leave .list (wantsNot rfl rfl rfl rfl) rfl ?_
    refine T.leave .list (wantsNot rfl rfl rfl rfl) rfl ?_
    refine T.pickF .list rfl (wants0 rfl) rfl rfl rfl rfl ?_
    refine T.move .list rfl (wants0 rfl) rfl rfl ?_
    refine T.leave .list (wantsNot rfl rfl rfl rfl) rfl ?_
    refine T.leave .list (wantsNot rfl rfl rfl rfl) rfl ?_
    refine T.pickF .list rfl (wants0 rfl) rfl rfl rfl rfl ?_
    refine T.move .list rfl (wants0 rfl) rfl rfl ?_
    refine T.leave .list (wantsNot rfl rfl rfl rfl) rfl ?_
    refine T.leave .list (wantsNot rfl rfl rfl rfl) rfl ?_
    refine T.pickF .list rfl (wants0 rfl) rfl rfl rfl rfl ?_
    refine T.move .list rfl (wants0 rfl) rfl rfl ?_
    refine T.leave .list (wantsNot rfl rfl rfl rfl) rfl ?_
    refine T.pickF .list rfl (wants0 rfl) rfl rfl rfl rfl ?_
    refine T.move .list rfl (wants0 rfl) rfl rfl ?_
    refine T.leave .list (wantsNot rfl rfl rfl rfl) rfl ?_
    refine T.leave .list (wantsNot rfl rfl rfl rfl) rfl ?_
    refine T.pickF .list rfl (wants0 rfl) rfl rfl rfl rfl ?_
    refine T.move .list rfl (wants0 rfl) rfl rfl ?_
    refine T.leave .list (wantsNot rfl rfl rfl rfl) rfl ?_
    refine T.leave .list (wantsNot rfl rfl rfl rfl) rfl ?_
    refine T.pickF .list rfl (wants0 rfl) rfl rfl rfl rfl ?_
    refine T.move .list rfl (wants0 rfl) rfl rfl ?_
    refine T.leave .list (wantsNot rfl rfl rfl rfl) rfl ?_
    refine T.leave .list (wantsNot rfl rfl rfl rfl) rfl ?_
    refine T.pickF .list rfl (wants0 rfl) rfl rfl rfl rfl ?_
    refine T.move .list rfl (wants0 rfl) rfl rfl ?_
    refine T.leave .list (wantsNot rfl rfl rfl rfl) rfl ?_
    refine T.leave .list (wantsNot rfl rfl rfl rfl) rfl ?_
    refine T.pickF .list rfl (wants0 rfl) rfl rfl rfl rfl ?_
    refine T.assign .list rfl (wants0 rfl) rfl rfl ?_
    refine T.nil ?_
    refine T.then_normal ?_
    refine T.ret ?_
    obtain rfl := inv_some hr
    refine T.pick [] 11 rfl rfl (Nat.le_add_left _ _) rfl ?_
    refine T.ret1 rfl rfl (fun w hS => ⟨(), rfl, hS⟩)
end Go.Proofs.Ythacklkmngfniaa
