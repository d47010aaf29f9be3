/- EntryS: what the functions compute, and that the program computes it; printed by a program of ours. -/
import Derived.Test.YtpogdeibkghhaaaDoorEntryD
import Derived.Test.YtpogdeibkghhaaaDoorNam
set_option linter.unusedVariables false
set_option linter.unusedSimpArgs false
namespace Go.Proofs.YtpogdeibkghhaaaDoor
open Go.RowKit
set_option maxRecDepth 100000
set_option maxHeartbeats 4000000
variable {B : World} {hs : List MP} {w : World}
noncomputable def entry_sameOp.impl (a0 : ty7) (a1 : ty7) : Option Bool :=
  (if ((decide (a0.1 = a1.1))) = true then (if ((decide (a0.2.1 = a1.2.1))) = true then (schema_Same.impl a0.2.2.1 a1.2.2.1).bind fun r1 => (if r1 = true then (schema_SameRow.impl a0.2.2.2.1 a1.2.2.2.1).bind fun r2 => (if r2 = true then (if ((decide (a0.2.2.2.2.1 = a1.2.2.2.2.1))) = true then (if ((decide (a0.2.2.2.2.2.1 = a1.2.2.2.2.2.1))) = true then (if ((decide (a0.2.2.2.2.2.2.1 = a1.2.2.2.2.2.2.1))) = true then (if ((decide (a0.2.2.2.2.2.2.2.1 = a1.2.2.2.2.2.2.2.1))) = true then some (decide (a0.2.2.2.2.2.2.2.2 = a1.2.2.2.2.2.2.2.2)) else some false) else some false) else some false) else some false) else some false) else some false) else some false) else some false)
theorem entry_sameOp.c {a0 : ty7} {i0a c0a : Nat} {A0a : Option Addr} {i0b c0b : Nat} {A0b : Option Addr} {i0c c0c : Nat} {A0c : Option Addr} {a1 : ty7} {i1a c1a : Nat} {A1a : Option Addr} {i1b c1b : Nat} {A1b : Option Addr} {i1c c1c : Nat} {A1c : Option Addr} (hB : Base B) (hS : St B (hs) w) (h0a : (hs)[i0a]? = some (Ro el9 A0a c0a a0.2.2.1.2.1)) (h0b : (hs)[i0b]? = some (Ro el11 A0b c0b a0.2.2.1.2.2)) (h0c : (hs)[i0c]? = some (Ro el2 A0c c0c a0.2.2.2.1)) (h1a : (hs)[i1a]? = some (Ro el9 A1a c1a a1.2.2.1.2.1)) (h1b : (hs)[i1b]? = some (Ro el11 A1b c1b a1.2.2.1.2.2)) (h1c : (hs)[i1c]? = some (Ro el2 A1c c1c a1.2.2.2.1)) {r : Bool} (hr : entry_sameOp.impl a0 a1 = some r) :
    Calls Tryd.prog 40 #[.agg #[.int .i64 a0.1, str a0.2.1, str a0.2.2.1.1, .slice A0a a0.2.2.1.2.1.length c0a, .slice A0b a0.2.2.1.2.2.length c0b, .slice A0c a0.2.2.2.1.length c0c, .int .i64 a0.2.2.2.2.1.1, .int .i64 a0.2.2.2.2.1.2.1, str a0.2.2.2.2.1.2.2, .int .i64 a0.2.2.2.2.2.1, .int .i64 a0.2.2.2.2.2.2.1.1, .int .i64 a0.2.2.2.2.2.2.1.2.1, str a0.2.2.2.2.2.2.1.2.2, .int .i64 a0.2.2.2.2.2.2.2.1.1, .int .i64 a0.2.2.2.2.2.2.2.1.2.1, str a0.2.2.2.2.2.2.2.1.2.2, .int .i64 a0.2.2.2.2.2.2.2.2], .agg #[.int .i64 a1.1, str a1.2.1, str a1.2.2.1.1, .slice A1a a1.2.2.1.2.1.length c1a, .slice A1b a1.2.2.1.2.2.length c1b, .slice A1c a1.2.2.2.1.length c1c, .int .i64 a1.2.2.2.2.1.1, .int .i64 a1.2.2.2.2.1.2.1, str a1.2.2.2.2.1.2.2, .int .i64 a1.2.2.2.2.2.1, .int .i64 a1.2.2.2.2.2.2.1.1, .int .i64 a1.2.2.2.2.2.2.1.2.1, str a1.2.2.2.2.2.2.1.2.2, .int .i64 a1.2.2.2.2.2.2.2.1.1, .int .i64 a1.2.2.2.2.2.2.2.1.2.1, str a1.2.2.2.2.2.2.2.1.2.2, .int .i64 a1.2.2.2.2.2.2.2.2]] w fun e w' => ∃ x : Unit, e = .returned (.bool r) ∧ St B (hs) w' := by
 unfold entry_sameOp.impl at hr
 refine calls_T Tryd.func40 rfl rfl rfl hS ?_
 refine T.front i0a h0a ?_
 refine T.front (i0b + 1) h0b ?_
 refine T.front (i0c + 2) h0c ?_
 refine T.front (i1a + 3) h1a ?_
 refine T.front (i1b + 4) h1b ?_
 refine T.front (i1c + 5) h1c ?_
 refine sq ?_
 refine A.bx rfl rfl (fun b1 => ?_)
 refine A.bx rfl rfl (fun b2 => ?_)
 refine sq ?_
 refine br hr (fun hb1 hr => ?_) (fun hb1 hr => ?_)
 ·refine st ?_
  refine T.strEq .list rfl (wants1 rfl rfl rfl hb1) rfl (l := a0.2.1) (l' := a1.2.1) rfl rfl ?_
  refine st ?_
  refine br hr (fun hb2 hr => ?_) (fun hb2 hr => ?_)
  ·refine st ?_
   obtain ⟨r1, hg1, hr⟩ := inv_bind hr
   refine A.c2g rfl rfl hb2 rfl rfl rfl Tryd.func57 rfl (fun w hS => schema_Same.c hB hS (i0a := 7) (i0b := 6) (i1a := 4) (i1b := 3) (a0 := a0.2.2.1) (a1 := a1.2.2.1) rfl rfl rfl rfl hg1) (fun x1 => ?_)
   refine st ?_
   refine br hr (fun hb3 hr => ?_) (fun hb3 hr => ?_)
   ·refine st ?_
    obtain ⟨r2, hg2, hr⟩ := inv_bind hr
    refine A.c2g rfl rfl hb3 rfl rfl rfl Tryd.func58 rfl (fun w hS => schema_SameRow.c hB hS (i0 := 5) (i1 := 2) rfl rfl hg2) (fun x2 => ?_)
    refine st ?_
    refine br hr (fun hb4 hr => ?_) (fun hb4 hr => ?_)
    ·refine st ?_
     refine T.eqS .list rfl (wants1 rfl rfl rfl hb4) rfl rfl rfl (by kernel_rfl) (by kernel_rfl) (by kernel_rfl) (l := [(3, 0), (3, 1), (9, 2)]) (by kernel_rfl) (.int rfl rfl (.int rfl rfl (.str rfl rfl .nil))) (b' := (decide (a0.2.2.2.2.1 = a1.2.2.2.2.1))) (by rw [Bool.eq_iff_iff]; simp [Prod.ext_iff]) ?_
     refine st ?_
     refine br hr (fun hb5 hr => ?_) (fun hb5 hr => ?_)
     ·refine st ?_
      refine br hr (fun hb6 hr => ?_) (fun hb6 hr => ?_)
      ·refine st ?_
       refine T.eqS .list rfl (wants1 rfl rfl rfl hb6) rfl rfl rfl (by kernel_rfl) (by kernel_rfl) (by kernel_rfl) (l := [(3, 0), (3, 1), (9, 2)]) (by kernel_rfl) (.int rfl rfl (.int rfl rfl (.str rfl rfl .nil))) (b' := (decide (a0.2.2.2.2.2.2.1 = a1.2.2.2.2.2.2.1))) (by rw [Bool.eq_iff_iff]; simp [Prod.ext_iff]) ?_
       refine st ?_
       refine br hr (fun hb7 hr => ?_) (fun hb7 hr => ?_)
       ·refine st ?_
        refine T.eqS .list rfl (wants1 rfl rfl rfl hb7) rfl rfl rfl (by kernel_rfl) (by kernel_rfl) (by kernel_rfl) (l := [(3, 0), (3, 1), (9, 2)]) (by kernel_rfl) (.int rfl rfl (.int rfl rfl (.str rfl rfl .nil))) (b' := (decide (a0.2.2.2.2.2.2.2.1 = a1.2.2.2.2.2.2.2.1))) (by rw [Bool.eq_iff_iff]; simp [Prod.ext_iff]) ?_
        refine st ?_
        refine br hr (fun hb8 hr => ?_) (fun hb8 hr => ?_)
        ·refine st ?_
         obtain rfl := inv_some hr
         refine pk [] 8 ?_
         refine T.ret1 rfl rfl (fun w hS => ⟨(), rfl, hS⟩)
        ·refine st ?_
         obtain rfl := inv_some hr
         refine pk [] 8 ?_
         refine T.ret1 rfl rfl (fun w hS => ⟨(), rfl, hS⟩)
       ·refine st ?_
        obtain rfl := inv_some hr
        refine pk [] 8 ?_
        refine T.ret1 rfl rfl (fun w hS => ⟨(), rfl, hS⟩)
      ·refine st ?_
       obtain rfl := inv_some hr
       refine pk [] 8 ?_
       refine T.ret1 rfl rfl (fun w hS => ⟨(), rfl, hS⟩)
     ·refine st ?_
      obtain rfl := inv_some hr
      refine pk [] 8 ?_
      refine T.ret1 rfl rfl (fun w hS => ⟨(), rfl, hS⟩)
    ·refine st ?_
     obtain rfl := inv_some hr
     refine pk [] 8 ?_
     refine T.ret1 rfl rfl (fun w hS => ⟨(), rfl, hS⟩)
   ·refine st ?_
    obtain rfl := inv_some hr
    refine pk [] 8 ?_
    refine T.ret1 rfl rfl (fun w hS => ⟨(), rfl, hS⟩)
  ·refine st ?_
   obtain rfl := inv_some hr
   refine pk [] 8 ?_
   refine T.ret1 rfl rfl (fun w hS => ⟨(), rfl, hS⟩)
 ·refine st ?_
  obtain rfl := inv_some hr
  refine pk [] 8 ?_
  refine T.ret1 rfl rfl (fun w hS => ⟨(), rfl, hS⟩)

noncomputable def slices_EqualFunc_api_Op_api_Op_api_Op_api_Op__entry_sameOp.k1 (s1 : Unit) : Option Bool :=
  some true
noncomputable def slices_EqualFunc_api_Op_api_Op_api_Op_api_Op__entry_sameOp.st1 (l0 : List ty7) (l1 : List ty7) (s2 : Int) : Option (Int ⊕ (Bool ⊕ Unit)) :=
  (if ((decide (s2 < ((l0.length : Int))))) = true then chk (0 ≤ s2 ∧ s2 < (l0.length : Int)) (chk (0 ≤ s2 ∧ s2 < (l1.length : Int)) ((entry_sameOp.impl (((((l0.getD (s2 : Int).toNat default)).1), (((l0.getD (s2 : Int).toNat default)).2.1), (((((l0.getD (s2 : Int).toNat default)).2.2.1).1), ((((l0.getD (s2 : Int).toNat default)).2.2.1).2.1), ((((l0.getD (s2 : Int).toNat default)).2.2.1).2.2)), (((l0.getD (s2 : Int).toNat default)).2.2.2.1), (((((l0.getD (s2 : Int).toNat default)).2.2.2.2.1).1), ((((l0.getD (s2 : Int).toNat default)).2.2.2.2.1).2.1), ((((l0.getD (s2 : Int).toNat default)).2.2.2.2.1).2.2)), (((l0.getD (s2 : Int).toNat default)).2.2.2.2.2.1), (((((l0.getD (s2 : Int).toNat default)).2.2.2.2.2.2.1).1), ((((l0.getD (s2 : Int).toNat default)).2.2.2.2.2.2.1).2.1), ((((l0.getD (s2 : Int).toNat default)).2.2.2.2.2.2.1).2.2)), (((((l0.getD (s2 : Int).toNat default)).2.2.2.2.2.2.2.1).1), ((((l0.getD (s2 : Int).toNat default)).2.2.2.2.2.2.2.1).2.1), ((((l0.getD (s2 : Int).toNat default)).2.2.2.2.2.2.2.1).2.2)), (((l0.getD (s2 : Int).toNat default)).2.2.2.2.2.2.2.2))) (((((l1.getD (s2 : Int).toNat default)).1), (((l1.getD (s2 : Int).toNat default)).2.1), (((((l1.getD (s2 : Int).toNat default)).2.2.1).1), ((((l1.getD (s2 : Int).toNat default)).2.2.1).2.1), ((((l1.getD (s2 : Int).toNat default)).2.2.1).2.2)), (((l1.getD (s2 : Int).toNat default)).2.2.2.1), (((((l1.getD (s2 : Int).toNat default)).2.2.2.2.1).1), ((((l1.getD (s2 : Int).toNat default)).2.2.2.2.1).2.1), ((((l1.getD (s2 : Int).toNat default)).2.2.2.2.1).2.2)), (((l1.getD (s2 : Int).toNat default)).2.2.2.2.2.1), (((((l1.getD (s2 : Int).toNat default)).2.2.2.2.2.2.1).1), ((((l1.getD (s2 : Int).toNat default)).2.2.2.2.2.2.1).2.1), ((((l1.getD (s2 : Int).toNat default)).2.2.2.2.2.2.1).2.2)), (((((l1.getD (s2 : Int).toNat default)).2.2.2.2.2.2.2.1).1), ((((l1.getD (s2 : Int).toNat default)).2.2.2.2.2.2.2.1).2.1), ((((l1.getD (s2 : Int).toNat default)).2.2.2.2.2.2.2.1).2.2)), (((l1.getD (s2 : Int).toNat default)).2.2.2.2.2.2.2.2)))).bind fun r1 => (if ((!r1)) = true then some (.inr (.inl false)) else some (.inl (IntKind.i64.wrap (s2 + 1)))))) else some (.inr (.inr ())))
noncomputable def slices_EqualFunc_api_Op_api_Op_api_Op_api_Op__entry_sameOp.impl (l0 : List ty7) (l1 : List ty7) : Option Bool :=
  (if ((!(decide ((((l0.length : Int))) = ((l1.length : Int)))))) = true then some false else (loop (slices_EqualFunc_api_Op_api_Op_api_Op_api_Op__entry_sameOp.st1 l0 l1) 0).bind (fun e1 => match e1 with | .inl v => some v | .inr v => slices_EqualFunc_api_Op_api_Op_api_Op_api_Op__entry_sameOp.k1 v))
theorem slices_EqualFunc_api_Op_api_Op_api_Op_api_Op__entry_sameOp.c {i0 c0 : Nat} {A0 : Option Addr} {l0 : List ty7} {i1 c1 : Nat} {A1 : Option Addr} {l1 : List ty7} (hB : Base B) (hS : St B (hs) w) (h0 : (hs)[i0]? = some (Ro el17 A0 c0 l0)) (h1 : (hs)[i1]? = some (Ro el17 A1 c1 l1)) {r : Bool} (hr : slices_EqualFunc_api_Op_api_Op_api_Op_api_Op__entry_sameOp.impl l0 l1 = some r) :
    Calls Tryd.prog 39 #[.slice A0 l0.length c0, .slice A1 l1.length c1, .func (.func 40) #[] #[]] w fun e w' => ∃ x : Unit, e = .returned (.bool r) ∧ St B (hs) w' := by
 unfold slices_EqualFunc_api_Op_api_Op_api_Op_api_Op__entry_sameOp.impl at hr
 refine calls_T Tryd.func39 rfl rfl rfl hS ?_
 refine T.front i0 h0 ?_
 refine T.front (i1 + 1) h1 ?_
 refine sq ?_
 refine A.cd hr rfl (fun hb1 hr => ?_) (fun hb1 hr => ?_)
 ·refine sq ?_
  obtain rfl := inv_some hr
  refine pk [] 2 ?_
  refine T.ret1 rfl rfl (fun w hS => ⟨(), rfl, hS⟩)
 ·refine st ?_
  refine T.seqJ (fun (s1 : Unit) (x1 : Unit) => []) (fun s1 x1 => hs) (fun s1 => slices_EqualFunc_api_Op_api_Op_api_Op_api_Op__entry_sameOp.k1 s1 = some r) (fun s1 x1 hk1 => ?_) (fun J1 => ?_)
  ·unfold slices_EqualFunc_api_Op_api_Op_api_Op_api_Op__entry_sameOp.k1 at hk1
   refine sq ?_
   obtain rfl := inv_some hk1
   refine pk [] 0 ?_
   refine T.ret1 rfl rfl (fun w hS => ⟨(), rfl, hS⟩)
  ·refine sq ?_
   obtain ⟨e1, hl1, hr⟩ := inv_bind hr
   refine jn [0, 1] 2 (T.loop (s0 := 0) (env := fun s2 x2 => [(1, .slice A1 l1.length c1), (2, .func (.func 40) #[] #[]), (15, .slice A0 l0.length c0), (16, .int .i64 ((l0.length : Int))), (17, .int .i64 s2)]) (hs := fun (s2 : Int) (x2 : Unit) => Ro el17 A1 c1 l1 :: Ro el17 A0 c0 l0 :: hs) hl1 () (fun K1 s2 x2 o1 he1 hm1 hx1 => ?_))
   unfold slices_EqualFunc_api_Op_api_Op_api_Op_api_Op__entry_sameOp.st1 at he1
   refine sq ?_
   refine A.cd he1 rfl (fun hb2 he1 => ?_) (fun hb2 he1 => ?_)
   ·refine sq ?_
    obtain ⟨hc1, he1⟩ := inv_chk he1
    refine T.idxRo .list 1 rfl rfl (wants0 rfl) rfl rfl rfl hc1.1 hc1.2 (Nat.le_refl _) ?_
    refine T.ldFRo 1 .list Fd.self (Sh.pair Sh.sc (Sh.pair Sh.sc (Sh.pair (Sh.pair Sh.sc (Sh.pair Sh.slice Sh.slice)) (Sh.pair Sh.slice (Sh.pair (Sh.pair Sh.sc (Sh.pair Sh.sc Sh.sc)) (Sh.pair Sh.sc (Sh.pair (Sh.pair Sh.sc (Sh.pair Sh.sc Sh.sc)) (Sh.pair (Sh.pair Sh.sc (Sh.pair Sh.sc Sh.sc)) Sh.sc)))))))) rfl (.inl rfl) rfl rfl hc1.1 hc1.2 rfl (wants0 rfl) rfl rfl rfl (v := fun x3 => .agg #[.int .i64 ((((l0.getD (s2 : Int).toNat default)).1)), str ((((l0.getD (s2 : Int).toNat default)).2.1)), str (((((l0.getD (s2 : Int).toNat default)).2.2.1).1)), .slice x3.2.2.1.2.1.1 ((((((l0.getD (s2 : Int).toNat default)).2.2.1).2.1)).length) x3.2.2.1.2.1.2, .slice x3.2.2.1.2.2.1 ((((((l0.getD (s2 : Int).toNat default)).2.2.1).2.2)).length) x3.2.2.1.2.2.2, .slice x3.2.2.2.1.1 (((((l0.getD (s2 : Int).toNat default)).2.2.2.1)).length) x3.2.2.2.1.2, .int .i64 (((((l0.getD (s2 : Int).toNat default)).2.2.2.2.1).1)), .int .i64 (((((l0.getD (s2 : Int).toNat default)).2.2.2.2.1).2.1)), str (((((l0.getD (s2 : Int).toNat default)).2.2.2.2.1).2.2)), .int .i64 ((((l0.getD (s2 : Int).toNat default)).2.2.2.2.2.1)), .int .i64 (((((l0.getD (s2 : Int).toNat default)).2.2.2.2.2.2.1).1)), .int .i64 (((((l0.getD (s2 : Int).toNat default)).2.2.2.2.2.2.1).2.1)), str (((((l0.getD (s2 : Int).toNat default)).2.2.2.2.2.2.1).2.2)), .int .i64 (((((l0.getD (s2 : Int).toNat default)).2.2.2.2.2.2.2.1).1)), .int .i64 (((((l0.getD (s2 : Int).toNat default)).2.2.2.2.2.2.2.1).2.1)), str (((((l0.getD (s2 : Int).toNat default)).2.2.2.2.2.2.2.1).2.2)), .int .i64 ((((l0.getD (s2 : Int).toNat default)).2.2.2.2.2.2.2.2))]) (hs' := fun x3 => Ro el9 x3.2.2.1.2.1.1 x3.2.2.1.2.1.2 (((((l0.getD (s2 : Int).toNat default)).2.2.1).2.1)) :: Ro el11 x3.2.2.1.2.2.1 x3.2.2.1.2.2.2 (((((l0.getD (s2 : Int).toNat default)).2.2.1).2.2)) :: Ro el2 x3.2.2.2.1.1 x3.2.2.2.1.2 ((((l0.getD (s2 : Int).toNat default)).2.2.2.1)) :: Ro el17 A1 c1 l1 :: Ro el17 A0 c0 l0 :: hs) (fun _ => rfl) (fun _ => rfl) (fun x3 => ?_)
    refine A.al rfl (fun b1 => ?_)
    refine sq ?_
    obtain ⟨hc2, he1⟩ := inv_chk he1
    refine T.idxRo .list 4 rfl rfl (wants0 rfl) rfl rfl rfl hc2.1 hc2.2 (Nat.le_refl _) ?_
    refine T.ldFRo 4 .list Fd.self (Sh.pair Sh.sc (Sh.pair Sh.sc (Sh.pair (Sh.pair Sh.sc (Sh.pair Sh.slice Sh.slice)) (Sh.pair Sh.slice (Sh.pair (Sh.pair Sh.sc (Sh.pair Sh.sc Sh.sc)) (Sh.pair Sh.sc (Sh.pair (Sh.pair Sh.sc (Sh.pair Sh.sc Sh.sc)) (Sh.pair (Sh.pair Sh.sc (Sh.pair Sh.sc Sh.sc)) Sh.sc)))))))) rfl (.inl rfl) rfl rfl hc2.1 hc2.2 rfl (wants0 rfl) rfl rfl rfl (v := fun x4 => .agg #[.int .i64 ((((l1.getD (s2 : Int).toNat default)).1)), str ((((l1.getD (s2 : Int).toNat default)).2.1)), str (((((l1.getD (s2 : Int).toNat default)).2.2.1).1)), .slice x4.2.2.1.2.1.1 ((((((l1.getD (s2 : Int).toNat default)).2.2.1).2.1)).length) x4.2.2.1.2.1.2, .slice x4.2.2.1.2.2.1 ((((((l1.getD (s2 : Int).toNat default)).2.2.1).2.2)).length) x4.2.2.1.2.2.2, .slice x4.2.2.2.1.1 (((((l1.getD (s2 : Int).toNat default)).2.2.2.1)).length) x4.2.2.2.1.2, .int .i64 (((((l1.getD (s2 : Int).toNat default)).2.2.2.2.1).1)), .int .i64 (((((l1.getD (s2 : Int).toNat default)).2.2.2.2.1).2.1)), str (((((l1.getD (s2 : Int).toNat default)).2.2.2.2.1).2.2)), .int .i64 ((((l1.getD (s2 : Int).toNat default)).2.2.2.2.2.1)), .int .i64 (((((l1.getD (s2 : Int).toNat default)).2.2.2.2.2.2.1).1)), .int .i64 (((((l1.getD (s2 : Int).toNat default)).2.2.2.2.2.2.1).2.1)), str (((((l1.getD (s2 : Int).toNat default)).2.2.2.2.2.2.1).2.2)), .int .i64 (((((l1.getD (s2 : Int).toNat default)).2.2.2.2.2.2.2.1).1)), .int .i64 (((((l1.getD (s2 : Int).toNat default)).2.2.2.2.2.2.2.1).2.1)), str (((((l1.getD (s2 : Int).toNat default)).2.2.2.2.2.2.2.1).2.2)), .int .i64 ((((l1.getD (s2 : Int).toNat default)).2.2.2.2.2.2.2.2))]) (hs' := fun x4 => Ro el9 x4.2.2.1.2.1.1 x4.2.2.1.2.1.2 (((((l1.getD (s2 : Int).toNat default)).2.2.1).2.1)) :: Ro el11 x4.2.2.1.2.2.1 x4.2.2.1.2.2.2 (((((l1.getD (s2 : Int).toNat default)).2.2.1).2.2)) :: Ro el2 x4.2.2.2.1.1 x4.2.2.2.1.2 ((((l1.getD (s2 : Int).toNat default)).2.2.2.1)) :: Cl b1 66 [.int .i64 ((((l0.getD (s2 : Int).toNat default)).1)), str ((((l0.getD (s2 : Int).toNat default)).2.1)), str (((((l0.getD (s2 : Int).toNat default)).2.2.1).1)), .slice x3.2.2.1.2.1.1 ((((((l0.getD (s2 : Int).toNat default)).2.2.1).2.1)).length) x3.2.2.1.2.1.2, .slice x3.2.2.1.2.2.1 ((((((l0.getD (s2 : Int).toNat default)).2.2.1).2.2)).length) x3.2.2.1.2.2.2, .slice x3.2.2.2.1.1 (((((l0.getD (s2 : Int).toNat default)).2.2.2.1)).length) x3.2.2.2.1.2, .int .i64 (((((l0.getD (s2 : Int).toNat default)).2.2.2.2.1).1)), .int .i64 (((((l0.getD (s2 : Int).toNat default)).2.2.2.2.1).2.1)), str (((((l0.getD (s2 : Int).toNat default)).2.2.2.2.1).2.2)), .int .i64 ((((l0.getD (s2 : Int).toNat default)).2.2.2.2.2.1)), .int .i64 (((((l0.getD (s2 : Int).toNat default)).2.2.2.2.2.2.1).1)), .int .i64 (((((l0.getD (s2 : Int).toNat default)).2.2.2.2.2.2.1).2.1)), str (((((l0.getD (s2 : Int).toNat default)).2.2.2.2.2.2.1).2.2)), .int .i64 (((((l0.getD (s2 : Int).toNat default)).2.2.2.2.2.2.2.1).1)), .int .i64 (((((l0.getD (s2 : Int).toNat default)).2.2.2.2.2.2.2.1).2.1)), str (((((l0.getD (s2 : Int).toNat default)).2.2.2.2.2.2.2.1).2.2)), .int .i64 ((((l0.getD (s2 : Int).toNat default)).2.2.2.2.2.2.2.2))] :: Ro el9 x3.2.2.1.2.1.1 x3.2.2.1.2.1.2 (((((l0.getD (s2 : Int).toNat default)).2.2.1).2.1)) :: Ro el11 x3.2.2.1.2.2.1 x3.2.2.1.2.2.2 (((((l0.getD (s2 : Int).toNat default)).2.2.1).2.2)) :: Ro el2 x3.2.2.2.1.1 x3.2.2.2.1.2 ((((l0.getD (s2 : Int).toNat default)).2.2.2.1)) :: Ro el17 A1 c1 l1 :: Ro el17 A0 c0 l0 :: hs) (fun _ => rfl) (fun _ => rfl) (fun x4 => ?_)
    refine A.al rfl (fun b2 => ?_)
    refine sq ?_
    obtain ⟨r1, hg1, he1⟩ := inv_bind he1
    refine T.call .list (wants0 rfl) rfl (run_callV (vs := [_, _]) (caps := []) (args := [_, _]) rfl rfl Tryd.func40 rfl (by decide) rfl rfl) (fun w hS => entry_sameOp.c hB hS (i0a := 5) (i0b := 6) (i0c := 7) (i1a := 1) (i1b := 2) (i1c := 3) (a0 := ((((l0.getD (s2 : Int).toNat default)).1), (((l0.getD (s2 : Int).toNat default)).2.1), (((((l0.getD (s2 : Int).toNat default)).2.2.1).1), ((((l0.getD (s2 : Int).toNat default)).2.2.1).2.1), ((((l0.getD (s2 : Int).toNat default)).2.2.1).2.2)), (((l0.getD (s2 : Int).toNat default)).2.2.2.1), (((((l0.getD (s2 : Int).toNat default)).2.2.2.2.1).1), ((((l0.getD (s2 : Int).toNat default)).2.2.2.2.1).2.1), ((((l0.getD (s2 : Int).toNat default)).2.2.2.2.1).2.2)), (((l0.getD (s2 : Int).toNat default)).2.2.2.2.2.1), (((((l0.getD (s2 : Int).toNat default)).2.2.2.2.2.2.1).1), ((((l0.getD (s2 : Int).toNat default)).2.2.2.2.2.2.1).2.1), ((((l0.getD (s2 : Int).toNat default)).2.2.2.2.2.2.1).2.2)), (((((l0.getD (s2 : Int).toNat default)).2.2.2.2.2.2.2.1).1), ((((l0.getD (s2 : Int).toNat default)).2.2.2.2.2.2.2.1).2.1), ((((l0.getD (s2 : Int).toNat default)).2.2.2.2.2.2.2.1).2.2)), (((l0.getD (s2 : Int).toNat default)).2.2.2.2.2.2.2.2))) (a1 := ((((l1.getD (s2 : Int).toNat default)).1), (((l1.getD (s2 : Int).toNat default)).2.1), (((((l1.getD (s2 : Int).toNat default)).2.2.1).1), ((((l1.getD (s2 : Int).toNat default)).2.2.1).2.1), ((((l1.getD (s2 : Int).toNat default)).2.2.1).2.2)), (((l1.getD (s2 : Int).toNat default)).2.2.2.1), (((((l1.getD (s2 : Int).toNat default)).2.2.2.2.1).1), ((((l1.getD (s2 : Int).toNat default)).2.2.2.2.1).2.1), ((((l1.getD (s2 : Int).toNat default)).2.2.2.2.1).2.2)), (((l1.getD (s2 : Int).toNat default)).2.2.2.2.2.1), (((((l1.getD (s2 : Int).toNat default)).2.2.2.2.2.2.1).1), ((((l1.getD (s2 : Int).toNat default)).2.2.2.2.2.2.1).2.1), ((((l1.getD (s2 : Int).toNat default)).2.2.2.2.2.2.1).2.2)), (((((l1.getD (s2 : Int).toNat default)).2.2.2.2.2.2.2.1).1), ((((l1.getD (s2 : Int).toNat default)).2.2.2.2.2.2.2.1).2.1), ((((l1.getD (s2 : Int).toNat default)).2.2.2.2.2.2.2.1).2.2)), (((l1.getD (s2 : Int).toNat default)).2.2.2.2.2.2.2.2))) rfl rfl rfl rfl rfl rfl hg1) (fun x5 => ?_)
    refine T.not .list rfl (wants0 rfl) rfl rfl ?_
    refine st ?_
    refine A.cd he1 rfl (fun hb3 he1 => ?_) (fun hb3 he1 => ?_)
    ·refine sq ?_
     obtain rfl := inv_some he1
     obtain rfl := hx1 _ rfl
     refine st ?_
     obtain rfl := inv_some hr
     refine pk [] 10 ?_
     refine T.ret1 rfl rfl (fun w hS => ⟨(), rfl, hS⟩)
    ·refine T.skip ?_
     refine sx ?_
     refine T.region ?_
     refine sx ?_
     obtain rfl := inv_some he1
     exact jn [8, 9] 10 (hm1 (IntKind.i64.wrap (s2 + 1)) rfl ())
   ·refine T.exit ?_
    refine sx ?_
    obtain rfl := inv_some he1
    obtain rfl := hx1 _ rfl
    refine sx ?_
    exact T.le EnvLe.nil (T.pick [] 2 rfl rfl nla rfl (J1 () () hr))

noncomputable def entry_Same_1.impl (a0 : ty8) (a1 : ty8) : Option Bool :=
  (if ((decide (a0.1 = a1.1))) = true then (if ((decide (a0.2.1 = a1.2.1))) = true then (slices_EqualFunc_api_Op_api_Op_api_Op_api_Op__entry_sameOp.impl a0.2.2 a1.2.2).bind fun r1 => some r1 else some false) else some false)
theorem entry_Same_1.c {a0 : ty8} {i0a c0a : Nat} {A0a : Option Addr} {a1 : ty8} {i1a c1a : Nat} {A1a : Option Addr} (hB : Base B) (hS : St B (hs) w) (h0a : (hs)[i0a]? = some (Ro el17 A0a c0a a0.2.2)) (h1a : (hs)[i1a]? = some (Ro el17 A1a c1a a1.2.2)) {r : Bool} (hr : entry_Same_1.impl a0 a1 = some r) :
    Calls Tryd.prog 38 #[.agg #[.int .i64 a0.1, .int .i64 a0.2.1, .slice A0a a0.2.2.length c0a], .agg #[.int .i64 a1.1, .int .i64 a1.2.1, .slice A1a a1.2.2.length c1a]] w fun e w' => ∃ x : Unit, e = .returned (.bool r) ∧ St B (hs) w' := by
 unfold entry_Same_1.impl at hr
 refine calls_T Tryd.func38 rfl rfl rfl hS ?_
 refine T.front i0a h0a ?_
 refine T.front (i1a + 1) h1a ?_
 refine sq ?_
 refine A.bx rfl rfl (fun b1 => ?_)
 refine A.bx rfl rfl (fun b2 => ?_)
 refine sq ?_
 refine br hr (fun hb1 hr => ?_) (fun hb1 hr => ?_)
 ·refine st ?_
  refine br hr (fun hb2 hr => ?_) (fun hb2 hr => ?_)
  ·refine st ?_
   obtain ⟨r1, hg1, hr⟩ := inv_bind hr
   refine A.c3g rfl rfl hb2 rfl rfl rfl rfl Tryd.func39 rfl (fun w hS => slices_EqualFunc_api_Op_api_Op_api_Op_api_Op__entry_sameOp.c hB hS (i0 := 3) (i1 := 2) rfl rfl hg1) (fun x1 => ?_)
   refine st ?_
   obtain rfl := inv_some hr
   refine pk [] 4 ?_
   refine T.ret1 rfl rfl (fun w hS => ⟨(), rfl, hS⟩)
  ·refine st ?_
   obtain rfl := inv_some hr
   refine pk [] 4 ?_
   refine T.ret1 rfl rfl (fun w hS => ⟨(), rfl, hS⟩)
 ·refine st ?_
  obtain rfl := inv_some hr
  refine pk [] 4 ?_
  refine T.ret1 rfl rfl (fun w hS => ⟨(), rfl, hS⟩)

noncomputable def slices_EqualFunc_api_Command_api_Command_api_Command_api_Command__entry_Same_1.k1 (s1 : Unit) : Option Bool :=
  some true
noncomputable def slices_EqualFunc_api_Command_api_Command_api_Command_api_Command__entry_Same_1.st1 (l0 : List ty8) (l1 : List ty8) (s2 : Int) : Option (Int ⊕ (Bool ⊕ Unit)) :=
  (if ((decide (s2 < ((l0.length : Int))))) = true then chk (0 ≤ s2 ∧ s2 < (l0.length : Int)) (chk (0 ≤ s2 ∧ s2 < (l1.length : Int)) ((entry_Same_1.impl (((((l0.getD (s2 : Int).toNat default)).1), (((l0.getD (s2 : Int).toNat default)).2.1), (((l0.getD (s2 : Int).toNat default)).2.2))) (((((l1.getD (s2 : Int).toNat default)).1), (((l1.getD (s2 : Int).toNat default)).2.1), (((l1.getD (s2 : Int).toNat default)).2.2)))).bind fun r1 => (if ((!r1)) = true then some (.inr (.inl false)) else some (.inl (IntKind.i64.wrap (s2 + 1)))))) else some (.inr (.inr ())))
noncomputable def slices_EqualFunc_api_Command_api_Command_api_Command_api_Command__entry_Same_1.impl (l0 : List ty8) (l1 : List ty8) : Option Bool :=
  (if ((!(decide ((((l0.length : Int))) = ((l1.length : Int)))))) = true then some false else (loop (slices_EqualFunc_api_Command_api_Command_api_Command_api_Command__entry_Same_1.st1 l0 l1) 0).bind (fun e1 => match e1 with | .inl v => some v | .inr v => slices_EqualFunc_api_Command_api_Command_api_Command_api_Command__entry_Same_1.k1 v))
theorem slices_EqualFunc_api_Command_api_Command_api_Command_api_Command__entry_Same_1.c {i0 c0 : Nat} {A0 : Option Addr} {l0 : List ty8} {i1 c1 : Nat} {A1 : Option Addr} {l1 : List ty8} (hB : Base B) (hS : St B (hs) w) (h0 : (hs)[i0]? = some (Ro el20 A0 c0 l0)) (h1 : (hs)[i1]? = some (Ro el20 A1 c1 l1)) {r : Bool} (hr : slices_EqualFunc_api_Command_api_Command_api_Command_api_Command__entry_Same_1.impl l0 l1 = some r) :
    Calls Tryd.prog 37 #[.slice A0 l0.length c0, .slice A1 l1.length c1, .func (.func 38) #[] #[]] w fun e w' => ∃ x : Unit, e = .returned (.bool r) ∧ St B (hs) w' := by
 unfold slices_EqualFunc_api_Command_api_Command_api_Command_api_Command__entry_Same_1.impl at hr
 refine calls_T Tryd.func37 rfl rfl rfl hS ?_
 refine T.front i0 h0 ?_
 refine T.front (i1 + 1) h1 ?_
 refine sq ?_
 refine A.cd hr rfl (fun hb1 hr => ?_) (fun hb1 hr => ?_)
 ·refine sq ?_
  obtain rfl := inv_some hr
  refine pk [] 2 ?_
  refine T.ret1 rfl rfl (fun w hS => ⟨(), rfl, hS⟩)
 ·refine st ?_
  refine T.seqJ (fun (s1 : Unit) (x1 : Unit) => []) (fun s1 x1 => hs) (fun s1 => slices_EqualFunc_api_Command_api_Command_api_Command_api_Command__entry_Same_1.k1 s1 = some r) (fun s1 x1 hk1 => ?_) (fun J1 => ?_)
  ·unfold slices_EqualFunc_api_Command_api_Command_api_Command_api_Command__entry_Same_1.k1 at hk1
   refine sq ?_
   obtain rfl := inv_some hk1
   refine pk [] 0 ?_
   refine T.ret1 rfl rfl (fun w hS => ⟨(), rfl, hS⟩)
  ·refine sq ?_
   obtain ⟨e1, hl1, hr⟩ := inv_bind hr
   refine jn [0, 1] 2 (T.loop (s0 := 0) (env := fun s2 x2 => [(1, .slice A1 l1.length c1), (2, .func (.func 38) #[] #[]), (15, .slice A0 l0.length c0), (16, .int .i64 ((l0.length : Int))), (17, .int .i64 s2)]) (hs := fun (s2 : Int) (x2 : Unit) => Ro el20 A1 c1 l1 :: Ro el20 A0 c0 l0 :: hs) hl1 () (fun K1 s2 x2 o1 he1 hm1 hx1 => ?_))
   unfold slices_EqualFunc_api_Command_api_Command_api_Command_api_Command__entry_Same_1.st1 at he1
   refine sq ?_
   refine A.cd he1 rfl (fun hb2 he1 => ?_) (fun hb2 he1 => ?_)
   ·refine sq ?_
    obtain ⟨hc1, he1⟩ := inv_chk he1
    refine T.idxRo .list 1 rfl rfl (wants0 rfl) rfl rfl rfl hc1.1 hc1.2 (Nat.le_refl _) ?_
    refine T.ldFRo 1 .list Fd.self (Sh.pair Sh.sc (Sh.pair Sh.sc Sh.slice)) rfl (.inl rfl) rfl rfl hc1.1 hc1.2 rfl (wants0 rfl) rfl rfl rfl (v := fun x3 => .agg #[.int .i64 ((((l0.getD (s2 : Int).toNat default)).1)), .int .i64 ((((l0.getD (s2 : Int).toNat default)).2.1)), .slice x3.2.2.1 (((((l0.getD (s2 : Int).toNat default)).2.2)).length) x3.2.2.2]) (hs' := fun x3 => Ro el17 x3.2.2.1 x3.2.2.2 ((((l0.getD (s2 : Int).toNat default)).2.2)) :: Ro el20 A1 c1 l1 :: Ro el20 A0 c0 l0 :: hs) (fun _ => rfl) (fun _ => rfl) (fun x3 => ?_)
    refine A.al rfl (fun b1 => ?_)
    refine sq ?_
    obtain ⟨hc2, he1⟩ := inv_chk he1
    refine T.idxRo .list 2 rfl rfl (wants0 rfl) rfl rfl rfl hc2.1 hc2.2 (Nat.le_refl _) ?_
    refine T.ldFRo 2 .list Fd.self (Sh.pair Sh.sc (Sh.pair Sh.sc Sh.slice)) rfl (.inl rfl) rfl rfl hc2.1 hc2.2 rfl (wants0 rfl) rfl rfl rfl (v := fun x4 => .agg #[.int .i64 ((((l1.getD (s2 : Int).toNat default)).1)), .int .i64 ((((l1.getD (s2 : Int).toNat default)).2.1)), .slice x4.2.2.1 (((((l1.getD (s2 : Int).toNat default)).2.2)).length) x4.2.2.2]) (hs' := fun x4 => Ro el17 x4.2.2.1 x4.2.2.2 ((((l1.getD (s2 : Int).toNat default)).2.2)) :: Cl b1 58 [.int .i64 ((((l0.getD (s2 : Int).toNat default)).1)), .int .i64 ((((l0.getD (s2 : Int).toNat default)).2.1)), .slice x3.2.2.1 (((((l0.getD (s2 : Int).toNat default)).2.2)).length) x3.2.2.2] :: Ro el17 x3.2.2.1 x3.2.2.2 ((((l0.getD (s2 : Int).toNat default)).2.2)) :: Ro el20 A1 c1 l1 :: Ro el20 A0 c0 l0 :: hs) (fun _ => rfl) (fun _ => rfl) (fun x4 => ?_)
    refine A.al rfl (fun b2 => ?_)
    refine sq ?_
    obtain ⟨r1, hg1, he1⟩ := inv_bind he1
    refine T.call .list (wants0 rfl) rfl (run_callV (vs := [_, _]) (caps := []) (args := [_, _]) rfl rfl Tryd.func38 rfl (by decide) rfl rfl) (fun w hS => entry_Same_1.c hB hS (i0a := 3) (i1a := 1) (a0 := ((((l0.getD (s2 : Int).toNat default)).1), (((l0.getD (s2 : Int).toNat default)).2.1), (((l0.getD (s2 : Int).toNat default)).2.2))) (a1 := ((((l1.getD (s2 : Int).toNat default)).1), (((l1.getD (s2 : Int).toNat default)).2.1), (((l1.getD (s2 : Int).toNat default)).2.2))) rfl rfl hg1) (fun x5 => ?_)
    refine T.not .list rfl (wants0 rfl) rfl rfl ?_
    refine st ?_
    refine A.cd he1 rfl (fun hb3 he1 => ?_) (fun hb3 he1 => ?_)
    ·refine sq ?_
     obtain rfl := inv_some he1
     obtain rfl := hx1 _ rfl
     refine st ?_
     obtain rfl := inv_some hr
     refine pk [] 6 ?_
     refine T.ret1 rfl rfl (fun w hS => ⟨(), rfl, hS⟩)
    ·refine T.skip ?_
     refine sx ?_
     refine T.region ?_
     refine sx ?_
     obtain rfl := inv_some he1
     exact jn [4, 5] 6 (hm1 (IntKind.i64.wrap (s2 + 1)) rfl ())
   ·refine T.exit ?_
    refine sx ?_
    obtain rfl := inv_some he1
    obtain rfl := hx1 _ rfl
    refine sx ?_
    exact T.le EnvLe.nil (T.pick [] 2 rfl rfl nla rfl (J1 () () hr))

noncomputable def entry_Same.impl (a0 : Int × Int × (List ty8) × Int) (a1 : Int × Int × (List ty8) × Int) : Option Bool :=
  (if ((decide (a0.1 = a1.1))) = true then (if ((decide (a0.2.1 = a1.2.1))) = true then (if ((decide (a0.2.2.2 = a1.2.2.2))) = true then (slices_EqualFunc_api_Command_api_Command_api_Command_api_Command__entry_Same_1.impl a0.2.2.1 a1.2.2.1).bind fun r1 => some r1 else some false) else some false) else some false)
theorem entry_Same.c {a0 : Int × Int × (List ty8) × Int} {i0a c0a : Nat} {A0a : Option Addr} {a1 : Int × Int × (List ty8) × Int} {i1a c1a : Nat} {A1a : Option Addr} (hB : Base B) (hS : St B (hs) w) (h0a : (hs)[i0a]? = some (Ro el20 A0a c0a a0.2.2.1)) (h1a : (hs)[i1a]? = some (Ro el20 A1a c1a a1.2.2.1)) {r : Bool} (hr : entry_Same.impl a0 a1 = some r) :
    Calls Tryd.prog 16 #[.agg #[.int .i64 a0.1, .int .i64 a0.2.1, .slice A0a a0.2.2.1.length c0a, .int .i64 a0.2.2.2], .agg #[.int .i64 a1.1, .int .i64 a1.2.1, .slice A1a a1.2.2.1.length c1a, .int .i64 a1.2.2.2]] w fun e w' => ∃ x : Unit, e = .returned (.bool r) ∧ St B (hs) w' := by
 unfold entry_Same.impl at hr
 refine calls_T Tryd.func16 rfl rfl rfl hS ?_
 refine T.front i0a h0a ?_
 refine T.front (i1a + 1) h1a ?_
 refine sq ?_
 refine A.bx rfl rfl (fun b1 => ?_)
 refine A.bx rfl rfl (fun b2 => ?_)
 refine sq ?_
 refine br hr (fun hb1 hr => ?_) (fun hb1 hr => ?_)
 ·refine st ?_
  refine br hr (fun hb2 hr => ?_) (fun hb2 hr => ?_)
  ·refine st ?_
   refine br hr (fun hb3 hr => ?_) (fun hb3 hr => ?_)
   ·refine st ?_
    obtain ⟨r1, hg1, hr⟩ := inv_bind hr
    refine A.c3g rfl rfl hb3 rfl rfl rfl rfl Tryd.func37 rfl (fun w hS => slices_EqualFunc_api_Command_api_Command_api_Command_api_Command__entry_Same_1.c hB hS (i0 := 3) (i1 := 2) rfl rfl hg1) (fun x1 => ?_)
    refine st ?_
    obtain rfl := inv_some hr
    refine pk [] 4 ?_
    refine T.ret1 rfl rfl (fun w hS => ⟨(), rfl, hS⟩)
   ·refine st ?_
    obtain rfl := inv_some hr
    refine pk [] 4 ?_
    refine T.ret1 rfl rfl (fun w hS => ⟨(), rfl, hS⟩)
  ·refine st ?_
   obtain rfl := inv_some hr
   refine pk [] 4 ?_
   refine T.ret1 rfl rfl (fun w hS => ⟨(), rfl, hS⟩)
 ·refine st ?_
  obtain rfl := inv_some hr
  refine pk [] 4 ?_
  refine T.ret1 rfl rfl (fun w hS => ⟨(), rfl, hS⟩)
end Go.Proofs.YtpogdeibkghhaaaDoor
