/- slices.Clone of bytes. -/
import Derived.Test.YtdojooblfemmnaaDoorCaught
set_option linter.unusedVariables false
set_option linter.unusedSimpArgs false
set_option linter.unusedSectionVars false
namespace Go.Proofs.YtdojooblfemmnaaDoor
open Go.RowKit
section
variable {P : Program} {N : Nat} {D : List Deferred} {B : World} {env env' : Env} {hs hs' : List MP} {ops : Array Oper} {Q : Exit → Act → World → Prop} {K Kn Kr : Act → World → Prop} {o : Oper} {kd : Nat}
variable {α : Type} {E : Elt α} {A : Option Addr} {cr cap n c : Nat} {l : List α} {x y : Operand} {t e : TypeId} {size bytes : Nat} {agg : Bool} {zero v : Value} {w : World}
/-- A literal without elements. -/
theorem T.lit0 (cx : Cx P ops Q o Kn Kr (kd + 2)) (E : Elt α) (ho : o.op = .buildSlice t 0 #[]) (hw : wants ops env o true) (hf : fits N o = true) [hsl : SL P t e] [ht : TI P e size bytes agg zero]
    (h : ∀ b, T N D B (ptE o (.slice (some ⟨b, 0, none⟩) 0 0) env) (Bf E e (some ⟨b, 0, none⟩) 0 ([] : List α) :: hs) Kr) : T N D B env hs Kn :=
  T.valW cx (v := fun b => .slice (some ⟨b, 0, none⟩) 0 0) hw hf (fun a w h3 h4 => ⟨w.heap.size, w.alloc (.cells #[] e), by simp [execOp, ho, Instr.buildSlice, run_underlying hsl.eq, ht.sizeOf, Instr.fill, newRow, show Array.range 0 = #[] by simp [Array.range]], by
    have := h4.allocCl #[] e
    exact this.conseq 0 rfl (fun z h1 hh => .inr ⟨w.heap.size, [], [], rfl, rfl, by simp, by simp [maxLen], hh⟩)⟩) h
theorem run_eqSl {t : TypeId} [hsl : SL P t e] : (Op.equal t (.slice A n c) (.slice none 0 0)).run P w = .ok (decide (A = none)) w := by
  show (Op.equalIn (9999 + 1) t (.slice A n c) (.slice none 0 0)).run P w = _
  unfold Op.equalIn
  cases A <;> simp [run_underlying hsl.eq]
/-- A slice held against nil. -/
theorem T.slNil {yt : TypeId} (cx : Cx P ops Q o Kn Kr kd) [hsl : SL P t e] (ho : o.op = .binOp .eql t x y yt) (hw : wants ops env o true) (hf : fits N o = true) (hx : ev env x = some (.slice A n c)) (hy : ev env y = some (.slice none 0 0)) (h : T N D B (ptE o (.bool (decide (A = none))) env) hs Kr) : T N D B env hs Kn :=
  T.bin' cx ho hw hf hx hy (fun w => by
    have hq := run_eqSl (P := P) (A := A) (n := n) (c := c) (t := t) (e := e) (w := w)
    rw [eqGuard_at_slice]
    simp only [binOp, Sem.run_bind, Sem.run_pure, Result.andThen_ok, hq]) h
theorem run_min2 {k : IntKind} {a b : Int} : (Builtin.min2 (.int k a) (.int k b) : Sem Value).run P w = .ok (.int k (min a b)) w := by
  simp only [Builtin.min2, Int.min_def]
  split <;> split <;> first | rfl | (exfalso; omega) | (congr 2; omega)
theorem T.min4 (cx : Cx P ops Q o Kn Kr kd) {k : IntKind} {a b c d : Int} {u v : Operand} {at' : Array TypeId} (ho : o.op = .call { callee := .builtin .min, args := #[x, y, u, v], argTypes := at' }) (hw : wants ops env o true) (hf : fits N o = true) (hx : ev env x = some (.int k a)) (hy : ev env y = some (.int k b)) (hu : ev env u = some (.int k c)) (hv : ev env v = some (.int k d)) (h : T N D B (ptE o (.int k (min (min (min a b) c) d)) env) hs Kr) : T N D B env hs Kn :=
  T.valP cx _ hw hf (fun a w h3 => by
    simp only [execOp, ho, resolve, invoke, builtin, Builtin.min_, Sem.run_bind, Sem.run_pure, Result.andThen_ok, List.map_toArray, List.map_cons, List.map_nil, h3.eval hx, h3.eval hy, h3.eval hu, h3.eval hv, List.foldlM_cons, List.foldlM_nil, run_min2]) h
theorem Ro.nil (hS : St B hs w) {i : Nat} (hi : hs[i]? = some (Ro E none cr l)) : l = [] := by
  obtain ⟨z, h, ⟨_, hr, _⟩, _, hz⟩ := hS.fact hi
  rcases hr with h | ⟨b, o, cs, ty, fr, hA, _⟩
  · exact h
  · cases hA
end
def slices_Clone.impl (l0 : List UInt8) : Option (List UInt8) := chk ((([] : List UInt8).length + l0.length) * 1 ≤ 140737488355328) (some l0)
set_option maxRecDepth 100000 in
theorem slices_Clone.c {B : World} {hs : List MP} {w : World} {i0 c0 : Nat} {A0 : Option Addr} {l0 : List UInt8} (hB : Base B) (hS : St B hs w) (h0 : hs[i0]? = some (Ro E8 A0 c0 l0)) {r : List UInt8} (hr : slices_Clone.impl l0 = some r) :
    Calls Tryd.prog 29 #[.slice A0 l0.length c0] w fun e w' => ∃ x : Option Addr × Nat, e = .returned (.slice x.1 r.length x.2) ∧ St B (Bf E8 5 x.1 x.2 r :: hs) w' := by
 unfold slices_Clone.impl at hr
 obtain ⟨hc, hr⟩ := inv_chk hr
 obtain rfl := inv_some hr
 refine calls_T Tryd.func29 rfl rfl rfl hS ?_
 refine T.seq ?_
 refine T.region ?_
 refine T.assign .list rfl (wants0 rfl) rfl rfl ?_
 refine T.nil ?_
 refine T.then_normal ?_
 refine T.seq ?_
 refine T.seq ?_
 refine T.region ?_
 refine T.move .list rfl (wants0 rfl) rfl rfl ?_
 refine T.slNil .list rfl (wants0 rfl) rfl rfl rfl ?_
 refine T.nil ?_
 refine T.then_normal ?_
 refine T.cond rfl (fun hb => ?_) (fun hb => ?_)
 · obtain rfl := of_decide_eq_true hb
   obtain rfl := Ro.nil hS h0
   refine T.seq ?_
   refine T.region ?_
   refine T.assign .list rfl (wants0 rfl) rfl rfl ?_
   refine T.nil ?_
   refine T.then_normal ?_
   refine T.ret ?_
   refine T.then_ret ?_
   refine T.nilBf E8 5 ?_
   refine T.ret1 rfl rfl (fun w hS => ⟨(none, 0), rfl, hS⟩)
 · refine T.skip ?_
   refine T.then_normal ?_
   refine T.front i0 h0 ?_
   refine T.seq ?_
   refine T.region ?_
   refine T.lit0 .list E8 rfl (wants0 rfl) rfl (fun b => ?_)
   refine T.move .list rfl (wants0 rfl) rfl rfl ?_
   refine T.appRo .list 0 1 rfl rfl rfl rfl rfl (wants0 rfl) rfl rfl rfl rfl rfl rfl hc (fun _ _ => rfl) (fun A c => ?_)
   refine T.assign .list rfl (wants0 rfl) rfl rfl ?_
   refine T.nil ?_
   refine T.then_normal ?_
   refine T.ret ?_
   refine T.pick [0] 2 rfl rfl (Nat.le_add_left _ _) rfl ?_
   refine T.ret1 rfl rfl (fun w hS => ⟨(A, c), rfl, hS⟩)
end Go.Proofs.YtdojooblfemmnaaDoor
