/- Deferred calls. -/
import Derived.Test.YtpogdeibkghhaaaDoorOwn
import Derived.Defers
import Derived.Recover
set_option linter.unusedVariables false
set_option linter.unusedSimpArgs false
set_option linter.unusedSectionVars false
namespace Go.Proofs.YtpogdeibkghhaaaDoor
open Go.RowKit
section
variable {P : Program} {N : Nat} {D D0 : List Deferred} {B : World} {env env' : Env} {hs : List MP} {ops : Array Oper} {Q : Exit → Act → World → Prop} {K Kn Kr : Act → World → Prop} {o : Oper} {kd : Nat}
variable {x y : Operand} {v u : Value} {w : World} {fn : Func} {R : Ending → World → Prop}
theorem T.defer (cx : Cx P ops Q o Kn Kr (kd + 2)) {d : Deferred} (hrun : ∀ a w, Holds env a → (execOp a.eval o).run P w = .ok (.defer d) w) (hw : wants ops env o true) (hf : fits N o = true)
    (h : T N (d :: D) B (ptE o undef env) hs Kr) : T N D B env hs Kn := by
  intro a w h1 h2 h3 h4
  have h3' : Holds env { a with defers := d :: a.defers } := h3
  obtain ⟨g1, g2, g3⟩ := h3'.putO (N := N) h1 hf undef
  refine cx.eff (by omega) a w (hw.spec h3) ?_
  unfold Oper.wp
  rw [hrun a w h3]
  exact h _ w g2 (g3.trans (by rw [h2])) g1 h4
theorem run_deferV {f : FuncId} {g : Operand} {xs : List Operand} {ats : Array TypeId} {vs caps : List Value} (ho : o.op = .defer { callee := .value g, args := xs.toArray, argTypes := ats }) (hg : ev env g = some (.func (.func f) #[] caps.toArray)) (hx : xs.map (ev env) = vs.map some) :
    ∀ a w, Holds env a → (execOp a.eval o).run P w = .ok (.defer { target := .fn (.func f) caps.toArray, args := vs.toArray }) w := fun a w h3 => by
  have e := map_eval h3 xs vs hx
  simp [execOp, ho, resolve, Deferred.ofValue, h3.eval hg, e]
/-- What is still to be done behind a return. -/
def Lv (P : Program) (fn : Func) (R : Ending → World → Prop) (D : List Deferred) : Act → World → Prop := fun a w => Leaves P fn a.tmps R D .returning w
/-- As the kit's, but that there is no panic. -/
def bodyPostF (P : Program) (fn : Func) (R : Ending → World → Prop) : Exit → Act → World → Prop
  | .panic _, _, _ => False
  | e, a, w => bodyPostD P fn R e a w
theorem wp_weak {c : Code} {Q Q' : Exit → Act → World → Prop} {a : Act} {w : World} (h : c.wp P Q a w) (hm : ∀ e a w, Q e a w → Q' e a w) : c.wp P Q' a w :=
  fun b k cs => let ⟨e, a', w', q, r⟩ := h b k cs; ⟨e, a', w', hm _ _ _ q, r⟩
theorem bodyPostF.weak : ∀ e a w, bodyPostF P fn R e a w → bodyPostD P fn R e a w := fun e a w h => by
  cases e <;> first | exact h | exact h.elim
theorem calls_TD {f : FuncId} {fn : Func} {c : Code} {args : Array Value} {w : World} {R : Ending → World → Prop} (hf : P.funcs[f]? = some fn) (hb : fn.body = some c) (hN : fn.ntmps = N) (hle : Nat.ble args.size N = true)
    (hS : St B hs w) (h : T N [] B (numbered 0 args.toList) hs (c.wp P (bodyPostF P fn R))) : Calls P f args w R := by
  refine calls_of_wp_defers hf hb (wp_weak (h _ w ?_ rfl ?_ hS) bodyPostF.weak)
  · simp only [Array.size_append, Array.size_replicate, hN]
    have := Nat.le_of_ble_eq_true hle
    omega
  · intro i v hi
    obtain ⟨_, h2⟩ := numbered_get _ _ _ _ hi
    simp only [Nat.sub_zero] at h2
    have hlt : i < args.size := by
      have := (List.getElem?_eq_some_iff.1 h2).1
      simpa using this
    show (args ++ _)[i]? = some v
    rw [Array.getElem?_append_left hlt]
    simpa using h2
theorem T.retD (h : T N D B env hs (Lv P fn R D)) : T N D B env hs (bodyPostF P fn R .ret) := fun a w h1 h2 h3 h4 => by
  show Leaves P fn a.tmps R a.defers .returning w
  rw [h2]; exact h a w h1 h2 h3 h4
theorem run_invoke {f : FuncId} {g : Func} {args caps vs : List Value} (hf : P.funcs[f]? = some g) (hb : g.body.isSome = true) (hn : (g.name == "runtime.NumGoroutine") = false) (ha : args ++ caps = vs) : (invoke (.fn (.func f) caps.toArray) args.toArray).run P w = .ok (.enter f vs.toArray) w := by
  subst ha
  have hn' : ¬ g.name = "runtime.NumGoroutine" := by simpa using hn
  have hb' : ¬ g.body = none := by intro h; simp [h] at hb
  simp [invoke, callFunc, hf, hn', hb']
/-- The next deferred call. -/
theorem T.lvCons {X : Type} {hs' : X → List MP} {f : FuncId} {g : Func} {args caps vs : List Value} (hf : P.funcs[f]? = some g) (hb : g.body.isSome = true) (hn : (g.name == "runtime.NumGoroutine") = false) (ha : args ++ caps = vs)
    (hc : ∀ w, St B hs w → CallsD P f vs.toArray .returning w fun e u w' => u = .returning ∧ ∃ x, e = .returned v ∧ St B (hs' x) w')
    (h : ∀ x, T N D0 B env (hs' x) (Lv P fn R D)) : T N D0 B env hs (Lv P fn R ({ target := .fn (.func f) caps.toArray, args := args.toArray } :: D)) := fun a w h1 h2 h3 h4 => by
  refine leaves_cons (by simp) (run_invoke hf hb hn ha) ((hc w h4).mono ?_)
  rintro e u w' ⟨rfl, x, rfl, hS⟩
  exact h x a w' h1 h2 h3 hS
theorem T.lvOut2 {r s : ResultVar} (hr : fn.results = #[r, s]) (h1 : OutRun P B env hs r v) (h2 : OutRun P B env hs s u) (h : ∀ w, St B hs w → R (.returned (.tuple #[v, u])) w) : T N D B env hs (Lv P fn R []) :=
  fun a w g1 g2 g3 g4 => ⟨.tuple #[v, u], by rw [results_of, hr]; simp [h1 a w g3 g4, h2 a w g3 g4], h w g4⟩
/-! ### An interface that is nil, held against nil -/
def isIf (P : Program) (t : TypeId) : Bool := match P.underlying t with | some (.interface _) => true | _ => false
theorem run_eqNil {t : TypeId} (ht : isIf P t = true) : (Op.equal t .nilIface .nilIface).run P w = .ok true w := by
  unfold isIf at ht
  split at ht
  · rename_i ms hu
    show (Op.equalIn (9999 + 1) t .nilIface .nilIface).run P w = _
    unfold Op.equalIn
    simp [run_underlying hu]
  · cases ht
end
end Go.Proofs.YtpogdeibkghhaaaDoor
